/-
  Part 10 of the proof: an evaluator of programs, its soundness, and what functions of this program compute.
-/
import Derived.Test.YtmcjkemalibacaaGreatK9
import Derived.Test.YtmcjkemalibacaaGreatK7
set_option linter.all false
set_option maxRecDepth 20000
set_option maxHeartbeats 40000000
namespace Go.Ab.Tryz
open Classical Go.Proofs Go.Ab
theorem aAQ:Flat (.agg [.v (.slice none 0 0)]):=.agg _ (by simp;exact .v _)
theorem Pn (x m:Int) (hm:0≤m∧m<9223372036854775808):0≤IntKind.i64.wrap ↑(BitVec.ofInt IntKind.i64.bits x &&& BitVec.ofInt IntKind.i64.bits m).toNat∧IntKind.i64.wrap ↑(BitVec.ofInt IntKind.i64.bits x &&& BitVec.ofInt IntKind.i64.bits m).toNat≤m:=by
 have h0:(BitVec.ofInt IntKind.i64.bits x &&& BitVec.ofInt IntKind.i64.bits m).toNat≤(BitVec.ofInt IntKind.i64.bits m).toNat:=by rw[BitVec.toNat_and];exact Nat.and_le_right
 have hb:IntKind.i64.bits=64:=rfl
 have h:(BitVec.ofInt IntKind.i64.bits (m:Int)).toNat=m.toNat:=by
  rw[BitVec.toNat_ofInt,hb];omega
 rw[h] at h0;rw[Gc _ (by omega) (by omega)]
 omega
theorem RA {i n:Int} (h:0≤i) (hn:0<n):0≤i.tdiv n∧i.tdiv n≤i:=by
 rw[Int.tdiv_eq_ediv_of_nonneg h];exact⟨Int.ediv_nonneg h (by omega),Int.ediv_le_self n h⟩
theorem eC {i n:Int} (h:0≤i) (hn:0<n):0≤i.tmod n∧i.tmod n<n:=by
 rw[Int.tmod_eq_emod_of_nonneg h];exact⟨Int.emod_nonneg i (by omega),Int.emod_lt_of_pos i hn⟩
theorem zW {i:Int} (h:0≤i) (s:Nat):0≤i.fdiv (2 ^ s):=by
 have h2:(0:Int)≤2 ^ s:=Int.pow_nonneg (by decide)
 rw[Int.fdiv_eq_ediv_of_nonneg _ h2];exact Int.ediv_nonneg h h2
theorem aH9 (l:List Int) (hl:(l.length:Int)≤9223372036854775807) (i:Int) (i0:0≤i) (i1:i<1000000):∃k:Int,aD Tryz.prog 145 [.sl l.length (aJ l),.v (.int .i64 i)]=some (.v (.int .i64 k))∧0≤k∧k≤17777215:=by
 rw[cL Tryz.func145 rfl aIa rfl];by_cases h:(l.length:Int)=0
 ·have hq:((l.length:Int) == 0)=true:=by simp[h]
  simp only[ZZ,seval,hq];obtain⟨b1,b2⟩:=Pn i 65535 (by decide)
  exact⟨_,bX rfl (by simp only[EV,seval]<;>rfl) (.v _),b1,by omega⟩
 ·have hq:((l.length:Int) == 0)=false:=by rw[beq_eq_false_iff_ne];exact h
  obtain⟨m1,m2⟩:=eC (n:=(l.length:Int)) i0 (by omega)
  obtain⟨d1,d2⟩:=RA (n:=(l.length:Int)) i0 (by omega)
  simp only[ZZ,seval,hq,h,m1,m2];obtain⟨b1,b2⟩:=Pn (it l (i.tmod ↑l.length)) 16777215 (by decide)
  refine⟨_,bX rfl (by simp only[EV,seval]<;>rfl) (.v _), ?_, ?_⟩
  all_goals
   rw[Gc (i.tdiv ↑l.length) (by omega) (by omega),Gc _ (by omega) (by omega)]
   omega
noncomputable def EK (l:List Int) (i:Int):Int:=if h:((l.length:Int)≤9223372036854775807∧0≤i∧i<1000000) then Classical.choose (aH9 l h.1 i h.2.1 h.2.2) else 0
theorem Mj (l:List Int) (hl:(l.length:Int)≤9223372036854775807) (i:Int) (i0:0≤i) (i1:i<1000000):aD Tryz.prog 145 [.sl l.length (aJ l),.v (.int .i64 i)]=some (.v (.int .i64 (EK l i)))∧0≤EK l i∧EK l i≤17777215:=by
 have h:((l.length:Int)≤9223372036854775807∧0≤i∧i<1000000):=⟨hl,i0,i1⟩
 unfold EK;rw[dif_pos h];exact Classical.choose_spec (aH9 l h.1 i h.2.1 h.2.2)
theorem Mk (l:List Int) (hl:(l.length:Int)≤9223372036854775807) (i:Int) (i0:0≤i) (i1:i<1000000) (st:St) (d:Option Nat):aP (aD Tryz.prog) 145 [.sl l.length (aJ l),.v (.int .i64 i)] st d=some { dst:=d,val:=.v (.int .i64 (EK l i))}:=bT (bI (Po l) (.v _)) (Mj l hl i i0 i1).1 (.v _)
def mkRoot (n:Int):cC:=((dI.set 0 (IntKind.u8.wrap n)).set 1 (IntKind.u8.wrap (n.fdiv (2 ^ min 8 IntKind.i64.bits)))).set 31 (IntKind.u8.wrap (IntKind.i64.wrap (n * 7)))
theorem c30 (n:Int):aD Tryz.prog 30 [.v (.int .i64 n)]=some (.agg (aV (mkRoot n))):=by
 rw[cL Tryz.func30 rfl aM1 rfl];simp only[ZZ,seval,Vc,Nat.reduceLT];exact eU rfl (by simp only[EV,seval];rfl) (by simp only[ZZ,seval];rfl) (.agg _ (dD _))
theorem Pp (n:Int) (st:St) (d:Option Nat):aP (aD Tryz.prog) 30 [.v (.int .i64 n)] st d=some { dst:=d,val:=.agg (aV (mkRoot n))}:=bT (cO (.v _)) (c30 n) (pZ _)
theorem aM2 (b:Block) (s:Int):aD Tryz.prog 157 [.agg (aT b),.v (.int .i64 s)]=some (.agg (cP ⟨[⟨b,-1,s⟩]⟩)):=by
 rw[cL Tryz.func157 rfl aIb rfl];simp only[ZZ,seval];exact dY rfl (by simp only[EV,seval];rfl) (by simp only[ZZ,seval];rfl) (by simp only[EV,seval,Option.map_some]<;>rfl)
theorem aM3 (b:Block) (s:Int) (st:St) (d:Option Nat):aP (aD Tryz.prog) 157 [.agg (aT b),.v (.int .i64 s)] st d=some { dst:=d,val:=.agg (cP ⟨[⟨b,-1,s⟩]⟩)}:=bT (bI (tZ _) (.v _)) (aM2 b s) (nG _)
theorem YQ (i:Int) (st:St) (d:Option Nat):aP (aD Tryz.prog) 186 [.v (.int .i64 i)] st d=some { dst:=d,val:=.v (.bool (RC i))}:=bT (cO (.v _)) (aM4 i) (.v _)
theorem mA (ns:List Node) (r:cC) (hn:(ns.length:Int)<1000000) (st:St) (d:Option Nat):aP (aD Tryz.prog) 46 [.agg (cP ⟨ns⟩),.agg (aV r)] st d=some { dst:=d,val:=.v (.int .i64 (aM ns r))}:=bT (bI (nG _) (pZ _)) (c46 ns r hn) (.v _)
noncomputable def Sy (ns:List Node) (b:Block) (s:Int):Int :=
 if RC s=false then 2 else if 0≤aM ns b.root then 9 else if aM ns b.parent<0 then 10 else if b.slot≤(nd ns (aM ns b.parent)).block.slot then 14 else if 4096≤(ns.length:Int) then 11 else 0
noncomputable def Dm (ns:List Node) (b:Block) (s:Int):AV :=
 if Sy ns b s=0 then .eB [.agg (cP ⟨ns++[⟨b,aM ns b.parent,s⟩]⟩),.v (.int .i64 0)] else .eB [.agg [.v (.slice none 0 0)],.v (.int .i64 (Sy ns b s))]
theorem fB (ns:List Node) (r:cC):-1≤aM ns r∧aM ns r<ns.length:=by
 unfold aM;cases h:ns.findIdx? (fun n=>decide (n.block.root=r)) with
 | none=>simp only;omega
 | some k =>
   have:=(List.findIdx?_eq_some_iff_getElem.1 h).1
   simp only;omega
theorem aM5 (ns:List Node) (hn:(ns.length:Int)<1000000) (b:Block) (s:Int):aD Tryz.prog 149 [.agg (cP ⟨ns⟩),.agg (aT b),.v (.int .i64 s)]=some (Dm ns b s):=by
 rw[cL Tryz.func149 rfl aIc rfl];have hu:=fB ns b.parent
 cases hs:RC s
 ·simp only[ZZ,seval,YQ,hs];rw[show Dm ns b s=.eB [.agg [.v (.slice none 0 0)],.v (.int .i64 2)] from by simp[Dm,Sy,hs]]
  exact dM rfl (by simp only[bS,ZZ,seval];rfl) (by simp only[bS,EV,seval]<;>rfl) (by simp only[EV,seval]<;>rfl) (by simp only[EV,seval]<;>rfl)
 by_cases h1:0≤aM ns b.root
 ·simp only[ZZ,seval,YQ,hs,mA,hn,h1];rw[show Dm ns b s=.eB [.agg [.v (.slice none 0 0)],.v (.int .i64 9)] from by simp[Dm,Sy,hs,h1]]
  exact dM rfl (by simp only[bS,ZZ,seval];rfl) (by simp only[bS,EV,seval]<;>rfl) (by simp only[EV,seval]<;>rfl) (by simp only[EV,seval]<;>rfl)
 by_cases h2:aM ns b.parent<0
 ·simp only[ZZ,seval,YQ,hs,mA,hn,h1,h2];rw[show Dm ns b s=.eB [.agg [.v (.slice none 0 0)],.v (.int .i64 10)] from by simp[Dm,Sy,hs,h1,h2]]
  exact dM rfl (by simp only[bS,ZZ,seval];rfl) (by simp only[bS,EV,seval]<;>rfl) (by simp only[EV,seval]<;>rfl) (by simp only[EV,seval]<;>rfl)
 have u0:0≤aM ns b.parent:=by omega
 have u1:aM ns b.parent<ns.length:=hu.2
 by_cases h3:b.slot≤(nd ns (aM ns b.parent)).block.slot
 ·simp only[ZZ,seval,YQ,hs,mA,hn,h1,h2,u0,u1,h3];rw[show Dm ns b s=.eB [.agg [.v (.slice none 0 0)],.v (.int .i64 14)] from by simp[Dm,Sy,hs,h1,h2,h3]]
  exact dM rfl (by simp only[bS,ZZ,seval];rfl) (by simp only[bS,EV,seval]<;>rfl) (by simp only[EV,seval]<;>rfl) (by simp only[EV,seval]<;>rfl)
 by_cases h4:4096≤(ns.length:Int)
 ·simp only[ZZ,seval,YQ,hs,mA,hn,h1,h2,u0,u1,h3,h4];rw[show Dm ns b s=.eB [.agg [.v (.slice none 0 0)],.v (.int .i64 11)] from by simp[Dm,Sy,hs,h1,h2,h3,h4]]
  exact dM rfl (by simp only[bS,ZZ,seval];rfl) (by simp only[bS,EV,seval]<;>rfl) (by simp only[EV,seval]<;>rfl) (by simp only[EV,seval]<;>rfl)
 ·simp only[ZZ,seval,YQ,hs,mA,hn,h1,h2,u0,u1,h3,h4];rw[show Dm ns b s=.eB [.agg (cP ⟨ns++[⟨b,aM ns b.parent,s⟩]⟩),.v (.int .i64 0)] from by simp[Dm,Sy,hs,h1,h2,h3,h4]]
  exact dM rfl (by simp only[bS,ZZ,seval];rfl) (by simp only[bS,EV,seval]<;>rfl) (by simp only[EV,seval]<;>rfl) (by simp only[EV,seval]<;>rfl)
theorem YR (ns:List Node) (b:Block) (s:Int):Flat (Dm ns b s):=by
 unfold Dm;split
 ·exact .eB _ (bI (nG _) (.v _))
 ·exact .eB _ (bI aAQ (.v _))
theorem aId (ns:List Node) (hn:(ns.length:Int)<1000000) (b:Block) (s:Int) (st:St) (d:Option Nat):aP (aD Tryz.prog) 149 [.agg (cP ⟨ns⟩),.agg (aT b),.v (.int .i64 s)] st d=some { dst:=d,val:=Dm ns b s }:=bT (mC (nG _) (tZ _) (.v _)) (aM5 ns hn b s) (YR ns b s)
theorem aM6 (n:Int):aD Tryz.prog 188 [.v (.int .u64 n)]=some (.v (.bool (decide (1≤n) && decide (n≤64)))):=by
 rw[cL Tryz.func188 rfl aIe rfl];by_cases h:1≤n
 all_goals
  simp only[Z8,seval,h,decide_true,decide_false,Bool.true_and,Bool.false_and];exact bX rfl (by simp only[E8,seval,h,decide_true,decide_false,Bool.true_and,Bool.false_and]<;>rfl) (.v _)
theorem aIf (n:Int) (st:St) (d:Option Nat):aP (aD Tryz.prog) 188 [.v (.int .u64 n)] st d=some { dst:=d,val:=.v (.bool (decide (1≤n) && decide (n≤64)))}:=bT (cO (.v _)) (aM6 n) (.v _)
noncomputable def YS (a b:Int):Int × Int:=if b≠0∧IntKind.u64.wrap (Int.tdiv 18446744073709551615 b)<a then (0,4) else (IntKind.u64.wrap (a * b),0)
theorem aM7 (a b:Int):aD Tryz.prog 189 [.v (.int .u64 a),.v (.int .u64 b)]=some (.eB [.v (.int .u64 (YS a b).1),.v (.int .i64 (YS a b).2)]):=by
 rw[cL Tryz.func189 rfl aIg rfl];unfold YS;by_cases h:b=0
 ·rw[if_neg (fun k=>k.1 h)]
  have hb:(b != 0)=false:=by simp[h]
  simp only[Z8,seval,hb];exact dM rfl rfl rfl (by simp only[E8,seval]<;>rfl) (by simp only[E8,seval]<;>rfl)
 ·have hb:(b != 0)=true:=by simp[h]
  have WH:(b=0)=False:=eq_false h
  by_cases h2:IntKind.u64.wrap (Int.tdiv 18446744073709551615 b)<a
  ·rw[if_pos ⟨h,h2⟩];simp only[Z8,seval,hb,WH,h2];exact dM rfl rfl rfl (by simp only[E8,seval]<;>rfl) (by simp only[E8,seval]<;>rfl)
  ·rw[if_neg (fun k=>h2 k.2)]
   simp only[Z8,seval,hb,WH,h2];exact dM rfl rfl rfl (by simp only[E8,seval]<;>rfl) (by simp only[E8,seval]<;>rfl)
theorem aM8 (a b:Int) (st:St) (d:Option Nat):aP (aD Tryz.prog) 189 [.v (.int .u64 a),.v (.int .u64 b)] st d=some { dst:=d,val:=.eB [.v (.int .u64 (YS a b).1),.v (.int .i64 (YS a b).2)]}:=bT (bI (.v _) (.v _)) (aM7 a b) (.eB _ (bI (.v _) (.v _)))
noncomputable def JV (e p:Int):Int × Int:=if 1≤p∧p≤64 then YS e p else (0,3)
theorem aM9 (e p:Int):aD Tryz.prog 155 [.v (.int .u64 e),.v (.int .u64 p)]=some (.eB [.v (.int .u64 (JV e p).1),.v (.int .i64 (JV e p).2)]):=by
 rw[cL Tryz.func155 rfl aIh rfl];unfold JV;by_cases h:1≤p∧p≤64
 ·have h1:(decide (1≤p) && decide (p≤64))=true:=by simp[h]
  rw[if_pos h];simp only[Z8,seval,aIf,h1,aM8,dT];exact dM rfl rfl rfl (by simp only[E8,seval]<;>rfl) (by simp only[E8,seval]<;>rfl)
 ·have h1:(decide (1≤p) && decide (p≤64))=false:=by
   rw[Bool.eq_false_iff];intro k;simp at k;exact h k
  rw[if_neg h];simp only[Z8,seval,aIf,h1];exact dM rfl rfl rfl (by simp only[E8,seval]<;>rfl) (by simp only[E8,seval]<;>rfl)
theorem aNa (e p:Int) (st:St) (d:Option Nat):aP (aD Tryz.prog) 155 [.v (.int .u64 e),.v (.int .u64 p)] st d=some { dst:=d,val:=.eB [.v (.int .u64 (JV e p).1),.v (.int .i64 (JV e p).2)]}:=bT (bI (.v _) (.v _)) (aM9 e p) (.eB _ (bI (.v _) (.v _)))
theorem aNb (n a b:Int):aD Tryz.prog 156 [.v (.int .i64 n),.v (.int .i64 a),.v (.int .i64 b)]=some (.v (.bool (decide (a≤n) && decide (n≤b)))):=by
 rw[cL Tryz.func156 rfl aIi rfl];by_cases h:a≤n
 all_goals
  simp only[Z8,seval,h,decide_true,decide_false,Bool.true_and,Bool.false_and];exact bX rfl (by simp only[E8,seval,h,decide_true,decide_false,Bool.true_and,Bool.false_and]<;>rfl) (.v _)
theorem aNc (n a b:Int) (st:St) (d:Option Nat):aP (aD Tryz.prog) 156 [.v (.int .i64 n),.v (.int .i64 a),.v (.int .i64 b)] st d=some { dst:=d,val:=.v (.bool (decide (a≤n) && decide (n≤b)))}:=bT (mC (.v _) (.v _) (.v _)) (aNb n a b) (.v _)
noncomputable def AA (a b:Int):Int × Int:=if IntKind.u64.wrap (18446744073709551615-b)<a then (0,4) else (IntKind.u64.wrap (a+b),0)
theorem aNd (a b:Int):aD Tryz.prog 196 [.v (.int .u64 a),.v (.int .u64 b)]=some (.eB [.v (.int .u64 (AA a b).1),.v (.int .i64 (AA a b).2)]):=by
 rw[cL Tryz.func196 rfl aIj rfl];unfold AA;by_cases h:IntKind.u64.wrap (18446744073709551615-b)<a
 ·rw[if_pos h];simp only[Z8,seval,h];exact dM rfl rfl rfl (by simp only[E8,seval]<;>rfl) (by simp only[E8,seval]<;>rfl)
 ·rw[if_neg h];simp only[Z8,seval,h];exact dM rfl rfl rfl (by simp only[E8,seval]<;>rfl) (by simp only[E8,seval]<;>rfl)
theorem aEy (a b:Int) (st:St) (d:Option Nat):aP (aD Tryz.prog) 196 [.v (.int .u64 a),.v (.int .u64 b)] st d=some { dst:=d,val:=.eB [.v (.int .u64 (AA a b).1),.v (.int .i64 (AA a b).2)]}:=bT (bI (.v _) (.v _)) (aNd a b) (.eB _ (bI (.v _) (.v _)))
theorem CK (l:List Int):∀c∈bD l,fF c:=by rw[JW];intro c hc;obtain⟨x,_,rfl⟩:=List.mem_map.1 hc;exact .v _
theorem xM {ns:List Node} (h:gU ns) {i:Int} (i0:0≤i) (i1:i<ns.length):i∈path ns i:=by
 by_cases hi:i=0
 ·subst hi;rw[qT (by omega)];simp
 ·rw[qU h (by omega) i1];simp
theorem Vd {ns:List Node} (h:gU ns):∀(k:Nat) (i:Int),i.toNat=k→0≤i→i<ns.length→∀x∈path ns i,0≤x∧x≤i:=by
 intro k;induction k using Nat.strongRecOn with
 | _ k ih =>
   intro i hk i0 i1 x hx;by_cases hi:i=0
   ·subst hi;rw[qT (by omega)] at hx;simp at hx;omega
   ·obtain⟨u0,u1⟩:=h i (by omega) i1
    rw[qU h (by omega) i1] at hx
    rcases List.mem_append.1 hx with hx|hx
    ·have:=ih (nd ns i).up.toNat (by omega) _ rfl u0 (by omega) x hx
     omega
    ·simp at hx;omega
theorem uM {ns:List Node} (h:gU ns) {i x:Int} (hx:x∈path ns i):0≤x∧x<ns.length:=by
 by_cases hi:0≤i∧i<ns.length
 ·have:=Vd h _ i rfl hi.1 hi.2 x hx;omega
 ·rw[xN hi] at hx;simp at hx
def Dn (ns:List Node) (s:Int) (l:List Int):Int:=l.foldl (fun r x=>if (nd ns x).block.slot≤s then x else r) (-1)
def EL (ns:List Node) (i s:Int):Int:=Dn ns s (path ns i)
theorem Ve (ns:List Node) (s:Int) (l:List Int) (x:Int):Dn ns s (l++[x])=if (nd ns x).block.slot≤s then x else Dn ns s l:=by simp[Dn]
theorem JX {ns:List Node} {i:Int} (s:Int) (h:¬(0≤i∧i<ns.length)):EL ns i s=-1:=by unfold EL;rw[xN h];rfl
theorem aAR {l:List Int} {j:Int} (j0:0≤j) (j1:j<l.length):l.take (j+1).toNat=l.take j.toNat++[it l j]:=by
 obtain⟨h,e⟩:=wI j0 j1
 rw[e,show (j+1).toNat=j.toNat+1 by omega,List.take_succ_eq_append_getElem h]
theorem Dp {l:List Int} {j:Int} (j0:0≤j) (j1:j<l.length):it l j∈l:=by
 obtain⟨h,e⟩:=wI j0 j1
 rw[e];exact List.getElem_mem h
theorem aNe (ns:List Node) (hu:gU ns) (hn:(ns.length:Int)<1000000) (i s:Int):aD Tryz.prog 100 [.agg (cP ⟨ns⟩),.v (.int .i64 i),.v (.int .u64 s)]=some (.v (.int .i64 (EL ns i s))):=by
 rw[cL Tryz.func100 rfl aIk rfl];by_cases hv:0≤i∧i<ns.length
 ·have hl:((path ns i).length:Int)<1000000:=by have:=zX hu i;omega
  have hp:=k76 ns hu hn i hv.1 hv.2
  have hrg:∀x∈path ns i,0≤x∧x<ns.length:=fun x=>uM hu
  unfold EL;generalize path ns i=p at hl hp hrg
  simp only[ZZ,seval,hp];refine lB (fun n st=>∃j:Int,st.env 2=.v (.int .u64 s)∧st.env 3=.ptr 3 0 0∧st.heap 3 0=some (.cells (cP ⟨ns⟩))∧st.env 8=.own 12 0∧st.heap 12 0=some (.row 3 1 p.length (aJ p))∧st.env 9=.v (.int .i64 j)∧st.env 7=.v (.int .i64 (Dn ns s (p.take j.toNat)))∧0≤j∧j≤p.length∧n=(p.length-j).toNat)
   (fun e st=>e=.exit 0∧st.env 7=.v (.int .i64 (Dn ns s p))) p.length ?step ?start ?rest
  case step =>
   rintro n st ⟨j,h2,h3,hh3,h8,hh8,h9,h7,j0,j1,Hz⟩
   by_cases bA:j<p.length
   ·have hw:IntKind.i64.wrap (j+1)=j+1:=Gc _ (by omega) (by omega)
    obtain⟨x0,x1⟩:=hrg _ (Dp j0 bA)
    have ht:=aAR j0 bA
    by_cases hs:(nd ns (it p j)).block.slot≤s
    ·apply oN ((p.length-(j+1)).toNat)
     ·simp only[ZZ,seval,h2,h3,hh3,h8,hh8,h9,bA,j0,hw,x0,x1,hs];rfl
     ·exact⟨j+1,by simp only[EV,seval,h2],by simp only[EV,seval,h3],by simp only[EV,seval,hh3],by simp only[EV,seval,h8],by simp only[EV,seval,hh8],(by simp only[EV,seval]),by simp only[EV,seval,ht,Ve,hs],by omega,by omega,rfl⟩
    ·apply oN ((p.length-(j+1)).toNat)
     ·simp only[ZZ,seval,h2,h3,hh3,h8,hh8,h9,bA,j0,hw,x0,x1,hs];rfl
     ·exact⟨j+1,by simp only[EV,seval,h2],by simp only[EV,seval,h3],by simp only[EV,seval,hh3],by simp only[EV,seval,h8],by simp only[EV,seval,hh8],(by simp only[EV,seval]),by simp only[EV,seval,ht,Ve,hs,h7],by omega,by omega,rfl⟩
   ·have ht:p.take j.toNat=p:=List.take_of_length_le (by omega)
    apply oT (.exit 0)
    ·simp only[ZZ,seval,h2,h3,hh3,h8,hh8,h9,bA,j0];rfl
    ·exact⟨rfl,by rw[← ht];exact h7⟩
  case start=>exact⟨0,(by simp only[EV,seval]),(by simp only[EV,seval]),(by simp only[EV,seval]),(by simp only[EV,seval]),(by simp only[EV,seval]),(by simp only[EV,seval]),(by simp only[EV,seval];rfl),by omega,by omega,by omega⟩
  case rest =>
   rintro e st ⟨rfl,h⟩
   simp only[ZZ,seval,h];exact bX rfl (by simp only[EV,seval]) (.v _)
 ·rw[JX s hv];simp only[ZZ,seval,YT ns i hv,Gd,Int.natCast_zero,Int.lt_irrefl,decide_false];exact bX rfl (by simp only[EV,seval]) (.v _)
theorem JY (ns:List Node) (hu:gU ns) (hn:(ns.length:Int)<1000000) (i s:Int) (st:St) (d:Option Nat):aP (aD Tryz.prog) 100 [.agg (cP ⟨ns⟩),.v (.int .i64 i),.v (.int .u64 s)] st d=some { dst:=d,val:=.v (.int .i64 (EL ns i s))}:=bT (mC (nG _) (.v _) (.v _)) (aNe ns hu hn i s) (.v _)
theorem aEA {ns:List Node} (hu:gU ns) {a c:Int} (h1:c<ns.length) (h:a<c) (a0:0≤a):zY ns a c=zY ns a (nd ns c).up:=by
 unfold zY;rw[decide_eq_decide,qU hu (by omega) h1]
 simp only[List.mem_append,List.mem_singleton];constructor
 ·rintro (hm|rfl)
  ·exact hm
  ·omega
 ·exact .inl
theorem YU {ns:List Node} (hu:gU ns) {a c:Int} (h:¬((0≤a∧a<ns.length)∧(0≤c∧c<ns.length))):zY ns a c=false:=by
 unfold zY;rw[decide_eq_false_iff_not];intro hm;by_cases hc:0≤c∧c<ns.length
 ·exact h ⟨uM hu hm,hc⟩
 ·rw[xN hc] at hm;simp at hm
theorem Vf {ns:List Node} (hu:gU ns) {a c:Int} (h:zY ns a c=true):(0≤a∧a<ns.length)∧(0≤c∧c<ns.length):=by
 by_cases hv:(0≤a∧a<ns.length)∧(0≤c∧c<ns.length)
 ·exact hv
 ·rw[YU hu hv] at h;cases h
theorem G7 {ns:List Node} (hu:gU ns) {a c:Int} (h:zY ns a c=true):a≤c:=by
 have hr:=(Vf hu h).2
 unfold zY at h;exact (Vd hu _ c rfl hr.1 hr.2 a (of_decide_eq_true h)).2
def oA (ns:List Node) (i:Int):Nat→List Node × List Int
 | 0=>([],[])
 | k+1 =>
   let p:=oA ns i k
   if zY ns i k=true then (p.1++[{ nd ns k with up:=if (k:Int)=i then -1 else it p.2 (nd ns k).up }],p.2++[(p.1.length:Int)]) else (p.1,p.2++[-1])
theorem Dq (ns:List Node) (i:Int):∀k,(oA ns i k).2.length=k
 | 0=>rfl
 | k+1=>by
   have:=Dq ns i k
   simp only[oA];split<;>simp[this]
theorem Pq (ns:List Node) (i:Int):∀k,(oA ns i k).1.length≤k
 | 0=>Nat.le_refl _
 | k+1=>by
   have:=Pq ns i k
   simp only[oA];split
   ·simp;exact this
   ·simp;omega
theorem lN {l m:List Int} {j:Int} (h0:0≤j) (h1:j<l.length):it (l++m) j=it l j:=by
 have:j.toNat<l.length:=by omega
 simp[it,List.getElem?_append_left this]
theorem By {l:List Int} {x:Int} {j:Int} (h:j=l.length):it (l++[x]) j=x:=by
 subst h;simp[it]
theorem Ib {l m:List Node} {j:Int} (h0:0≤j) (h1:j<l.length):nd (l++m) j=nd l j:=by
 have:j.toNat<l.length:=by omega
 simp[nd,List.getElem?_append_left this]
theorem CL {l:List Node} {x:Node} {j:Int} (h:j=l.length):nd (l++[x]) j=x:=by
 subst h;simp[nd]
theorem JZ {ns:List Node} (hu:gU ns) {i:Int} (i0:0≤i) (i1:i<ns.length):zY ns i i=true:=by
 unfold zY;rw[decide_eq_true_eq];by_cases h:i=0
 ·subst h;rw[qT (by omega)];simp
 ·rw[qU hu (by omega) i1];simp
theorem KA {ns:List Node} {a:Int} (h:0<ns.length):zY ns a 0=decide (a=0):=by
 unfold zY;rw[qT h];simp
theorem aEB (ns:List Node) (hu:gU ns) {i:Int} (i0:0≤i) (i1:i<ns.length):(oA ns i ns.length).1≠[]:=by
 have main:∀k:Nat,i<k→k≤ns.length→(oA ns i k).1≠[]:=by
  intro k;induction k with
  | zero=>intro h;omega
  | succ k ih =>
    intro h1 h2;by_cases hk:i<k
    ·have:=ih hk (by omega)
     simp only[oA];split
     ·simp
     ·exact this
    ·have hki:i=k:=by omega
     have:zY ns i k=true:=by rw[← hki];exact JZ hu i0 i1
     simp[oA,this]
 exact main ns.length i1 (Nat.le_refl _)
def aIn (st:St) (s1 s2:Nat) (y:AV) (l:List Int):Prop :=
 (y=.v (.slice none 0 0)∧l=[])∨(∃g,y=.own s1 g∧g<st.aO s1∧st.heap s1 g=some (.row 3 1 l.length (aJ l)))∨(∃g,y=.own s2 g∧g<st.aO s2∧st.heap s2 g=some (.row 3 1 l.length (aJ l)))
def aIo (st:St) (s1:Nat) (x:AV) (l:List Node):Prop :=
 (x=.v (.slice none 0 0)∧l=[])∨(∃g,x=.own s1 g∧g<st.aO s1∧st.heap s1 g=some (.row 76 240 l.length (bZ l)))
theorem c34 (ns:List Node) (hu:gU ns) (hn:(ns.length:Int)<1000000) (i:Int) (i0:0≤i) (i1:i<ns.length):aD Tryz.prog 34 [.agg (cP ⟨ns⟩),.v (.int .i64 i)] =
 some (.eB [.agg (cP ⟨(oA ns i ns.length).1⟩),.sl (oA ns i ns.length).2.length (aJ (oA ns i ns.length).2),.v (.int .i64 0)]):=by
 have hd:(decide (0≤i) && decide (i<ns.length))=true:=by simp[i0,i1]
 rw[cL Tryz.func34 rfl aNf rfl];simp only[ZZ,seval,QM,hd];refine lB (fun n st=>∃(k:Nat) (x y:AV),st.env 2=.ptr 2 0 0∧st.heap 2 0=some (.cells (cP ⟨ns⟩))∧st.env 4=.ptr 4 0 0∧st.heap 4 0=some (.cells [.v (.slice none 0 0)])∧st.env 7=.ptr 7 0 0∧st.heap 7 0=some (.cells [x]) ∧
  st.env 1=.v (.int .i64 i)∧st.env 9=.v (.int .i64 k)∧k≤ns.length∧n=ns.length-k∧st.env 8=y∧aIn st 30 51 y (oA ns i k).2∧aIo st 56 x (oA ns i k).1)
  (fun e st=>e=.exit 0∧∃(x y:AV),st.env 4=.ptr 4 0 0∧st.heap 4 0=some (.cells [.v (.slice none 0 0)])∧st.env 7=.ptr 7 0 0∧st.heap 7 0=some (.cells [x])∧st.env 8=y∧aIn st 30 51 y (oA ns i ns.length).2∧aIo st 56 x (oA ns i ns.length).1) ns.length ?step ?start ?rest
 case step =>
  rintro n st ⟨k,x,y,h2,wF,h4,Dr,h7,Fi,h1,h9,hk,Hz,h8,hy,hx⟩
  have hlen:=Dq ns i k
  have hlen2:=Pq ns i k
  have Pl:((oA ns i k).2.length:Int)<1000000:=by omega
  have WK:((oA ns i k).1.length:Int)<1000000:=by omega
  by_cases bA:(k:Int)<ns.length
  ·have hw:IntKind.i64.wrap ((k:Int)+1)=((k+1:Nat):Int):=by rw[Gc _ (by omega) (by omega)];simp
   have k0:(0:Int)≤k:=by omega
   by_cases Ml:zY ns i k=true
   ·have hs:oA ns i (k+1)=((oA ns i k).1++[{ nd ns k with up:=if (k:Int)=i then -1 else it (oA ns i k).2 (nd ns k).up }],(oA ns i k).2++[((oA ns i k).1.length:Int)]):=by simp only[oA,Ml,if_true]
    have upb:(k:Int)≠i→0≤(nd ns k).up∧(nd ns k).up<(oA ns i k).2.length:=fun gN=>by
     rcases Nat.eq_zero_or_pos k with h0|h0
     ·subst h0;rw[show ((0:Nat):Int)=0 from rfl,KA (by omega)] at Ml
      simp at Ml
      omega
     ·have:=hu k (by omega) bA
      rw[hlen];omega
    by_cases hki:(k:Int)=i
    ·have hq:((k:Int) == i)=true:=by simp[hki]
     rw[if_pos hki] at hs;rcases hy with ⟨rfl,hy⟩|⟨g,rfl,hg,hy⟩|⟨g,rfl,hg,hy⟩<;>rcases hx with ⟨rfl,hx⟩|⟨g',rfl,YV,hx⟩
     ·rw[hy,hx] at hs;apply oN ((ns.length-(k+1)))
      ·simp only[ZZ,seval,h2,wF,h4,Dr,h7,Fi,h1,h9,h8,bA,k0,Mm ns hu hn,Ml,hw,hq];rfl
      ·exact⟨k+1,_,_,(by simp only[EV,seval,h2]),(by simp only[EV,seval,wF]),(by simp only[EV,seval,h4]),(by simp only[EV,seval,Dr]),(by simp only[EV,seval,h7]),(by simp only[EV,seval];rfl),(by simp only[EV,seval,h1]),(by simp only[EV,seval]),by omega,by omega,(by simp only[EV,seval];rfl),(by rw[hs];(try simp only[List.nil_append]);exact .inr (.inr ⟨_,rfl,(by simp only[EV,seval]<;>omega),(by simp only[EV,seval]<;>rfl)⟩)),(by rw[hs];(try simp only[List.nil_append]);exact .inr ⟨_,rfl,(by simp only[EV,seval]<;>omega),(by simp only[EV,seval]<;>rfl)⟩)⟩
     ·rw[hy] at hs;apply oN ((ns.length-(k+1)))
      ·simp only[ZZ,seval,h2,wF,h4,Dr,h7,Fi,h1,h9,h8,bA,k0,Mm ns hu hn,Ml,hw,hq,hx,WK];rfl
      ·exact⟨k+1,_,_,(by simp only[EV,seval,h2]),(by simp only[EV,seval,wF]),(by simp only[EV,seval,h4]),(by simp only[EV,seval,Dr]),(by simp only[EV,seval,h7]),(by simp only[EV,seval];rfl),(by simp only[EV,seval,h1]),(by simp only[EV,seval]),by omega,by omega,(by simp only[EV,seval];rfl),(by rw[hs];(try simp only[List.nil_append]);exact .inr (.inr ⟨_,rfl,(by simp only[EV,seval]<;>omega),(by simp only[EV,seval]<;>rfl)⟩)),(by rw[hs];(try simp only[List.nil_append]);exact .inr ⟨_,rfl,(by simp only[EV,seval]<;>omega),(by simp only[EV,seval]<;>rfl)⟩)⟩
     ·rw[hx] at hs;apply oN ((ns.length-(k+1)))
      ·simp only[ZZ,seval,h2,wF,h4,Dr,h7,Fi,h1,h9,h8,bA,k0,Mm ns hu hn,Ml,hw,hq,hy,Pl];rfl
      ·exact⟨k+1,_,_,(by simp only[EV,seval,h2]),(by simp only[EV,seval,wF]),(by simp only[EV,seval,h4]),(by simp only[EV,seval,Dr]),(by simp only[EV,seval,h7]),(by simp only[EV,seval];rfl),(by simp only[EV,seval,h1]),(by simp only[EV,seval]),by omega,by omega,(by simp only[EV,seval];rfl),(by rw[hs];(try simp only[List.nil_append]);exact .inr (.inr ⟨_,rfl,(by simp only[EV,seval]<;>omega),(by simp only[EV,seval]<;>rfl)⟩)),(by rw[hs];(try simp only[List.nil_append]);exact .inr ⟨_,rfl,(by simp only[EV,seval]<;>omega),(by simp only[EV,seval]<;>rfl)⟩)⟩
     ·apply oN ((ns.length-(k+1)))
      ·simp only[ZZ,seval,h2,wF,h4,Dr,h7,Fi,h1,h9,h8,bA,k0,Mm ns hu hn,Ml,hw,hq,hy,Pl,hx,WK];rfl
      ·exact⟨k+1,_,_,(by simp only[EV,seval,h2]),(by simp only[EV,seval,wF]),(by simp only[EV,seval,h4]),(by simp only[EV,seval,Dr]),(by simp only[EV,seval,h7]),(by simp only[EV,seval];rfl),(by simp only[EV,seval,h1]),(by simp only[EV,seval]),by omega,by omega,(by simp only[EV,seval];rfl),(by rw[hs];(try simp only[List.nil_append]);exact .inr (.inr ⟨_,rfl,(by simp only[EV,seval]<;>omega),(by simp only[EV,seval]<;>rfl)⟩)),(by rw[hs];(try simp only[List.nil_append]);exact .inr ⟨_,rfl,(by simp only[EV,seval]<;>omega),(by simp only[EV,seval]<;>rfl)⟩)⟩
     ·rw[hx] at hs;apply oN ((ns.length-(k+1)))
      ·simp only[ZZ,seval,h2,wF,h4,Dr,h7,Fi,h1,h9,h8,bA,k0,Mm ns hu hn,Ml,hw,hq,hy,Pl];rfl
      ·exact⟨k+1,_,_,(by simp only[EV,seval,h2]),(by simp only[EV,seval,wF]),(by simp only[EV,seval,h4]),(by simp only[EV,seval,Dr]),(by simp only[EV,seval,h7]),(by simp only[EV,seval];rfl),(by simp only[EV,seval,h1]),(by simp only[EV,seval]),by omega,by omega,(by simp only[EV,seval];rfl),(by rw[hs];(try simp only[List.nil_append]);exact .inr (.inr ⟨_,rfl,(by simp only[EV,seval]<;>omega),(by simp only[EV,seval]<;>rfl)⟩)),(by rw[hs];(try simp only[List.nil_append]);exact .inr ⟨_,rfl,(by simp only[EV,seval]<;>omega),(by simp only[EV,seval]<;>rfl)⟩)⟩
     ·apply oN ((ns.length-(k+1)))
      ·simp only[ZZ,seval,h2,wF,h4,Dr,h7,Fi,h1,h9,h8,bA,k0,Mm ns hu hn,Ml,hw,hq,hy,Pl,hx,WK];rfl
      ·exact⟨k+1,_,_,(by simp only[EV,seval,h2]),(by simp only[EV,seval,wF]),(by simp only[EV,seval,h4]),(by simp only[EV,seval,Dr]),(by simp only[EV,seval,h7]),(by simp only[EV,seval];rfl),(by simp only[EV,seval,h1]),(by simp only[EV,seval]),by omega,by omega,(by simp only[EV,seval];rfl),(by rw[hs];(try simp only[List.nil_append]);exact .inr (.inr ⟨_,rfl,(by simp only[EV,seval]<;>omega),(by simp only[EV,seval]<;>rfl)⟩)),(by rw[hs];(try simp only[List.nil_append]);exact .inr ⟨_,rfl,(by simp only[EV,seval]<;>omega),(by simp only[EV,seval]<;>rfl)⟩)⟩
    ·have hq:((k:Int) == i)=false:=by simp[hki]
     obtain⟨u0,u1⟩:=upb hki
     rw[if_neg hki] at hs;rcases hy with ⟨rfl,hy⟩|⟨g,rfl,hg,hy⟩|⟨g,rfl,hg,hy⟩<;>rcases hx with ⟨rfl,hx⟩|⟨g',rfl,YV,hx⟩
     ·exfalso;rw[hy] at u1;simp at u1;omega
     ·exfalso;rw[hy] at u1;simp at u1;omega
     ·rw[hx] at hs;apply oN ((ns.length-(k+1)))
      ·simp only[ZZ,seval,h2,wF,h4,Dr,h7,Fi,h1,h9,h8,bA,k0,Mm ns hu hn,Ml,hw,hq,u0,u1,hy,Pl];rfl
      ·exact⟨k+1,_,_,(by simp only[EV,seval,h2]),(by simp only[EV,seval,wF]),(by simp only[EV,seval,h4]),(by simp only[EV,seval,Dr]),(by simp only[EV,seval,h7]),(by simp only[EV,seval];rfl),(by simp only[EV,seval,h1]),(by simp only[EV,seval]),by omega,by omega,(by simp only[EV,seval];rfl),(by rw[hs];(try simp only[List.nil_append]);exact .inr (.inr ⟨_,rfl,(by simp only[EV,seval]<;>omega),(by simp only[EV,seval]<;>rfl)⟩)),(by rw[hs];(try simp only[List.nil_append]);exact .inr ⟨_,rfl,(by simp only[EV,seval]<;>omega),(by simp only[EV,seval]<;>rfl)⟩)⟩
     ·apply oN ((ns.length-(k+1)))
      ·simp only[ZZ,seval,h2,wF,h4,Dr,h7,Fi,h1,h9,h8,bA,k0,Mm ns hu hn,Ml,hw,hq,u0,u1,hy,Pl,hx,WK];rfl
      ·exact⟨k+1,_,_,(by simp only[EV,seval,h2]),(by simp only[EV,seval,wF]),(by simp only[EV,seval,h4]),(by simp only[EV,seval,Dr]),(by simp only[EV,seval,h7]),(by simp only[EV,seval];rfl),(by simp only[EV,seval,h1]),(by simp only[EV,seval]),by omega,by omega,(by simp only[EV,seval];rfl),(by rw[hs];(try simp only[List.nil_append]);exact .inr (.inr ⟨_,rfl,(by simp only[EV,seval]<;>omega),(by simp only[EV,seval]<;>rfl)⟩)),(by rw[hs];(try simp only[List.nil_append]);exact .inr ⟨_,rfl,(by simp only[EV,seval]<;>omega),(by simp only[EV,seval]<;>rfl)⟩)⟩
     ·rw[hx] at hs;apply oN ((ns.length-(k+1)))
      ·simp only[ZZ,seval,h2,wF,h4,Dr,h7,Fi,h1,h9,h8,bA,k0,Mm ns hu hn,Ml,hw,hq,u0,u1,hy,Pl];rfl
      ·exact⟨k+1,_,_,(by simp only[EV,seval,h2]),(by simp only[EV,seval,wF]),(by simp only[EV,seval,h4]),(by simp only[EV,seval,Dr]),(by simp only[EV,seval,h7]),(by simp only[EV,seval];rfl),(by simp only[EV,seval,h1]),(by simp only[EV,seval]),by omega,by omega,(by simp only[EV,seval];rfl),(by rw[hs];(try simp only[List.nil_append]);exact .inr (.inr ⟨_,rfl,(by simp only[EV,seval]<;>omega),(by simp only[EV,seval]<;>rfl)⟩)),(by rw[hs];(try simp only[List.nil_append]);exact .inr ⟨_,rfl,(by simp only[EV,seval]<;>omega),(by simp only[EV,seval]<;>rfl)⟩)⟩
     ·apply oN ((ns.length-(k+1)))
      ·simp only[ZZ,seval,h2,wF,h4,Dr,h7,Fi,h1,h9,h8,bA,k0,Mm ns hu hn,Ml,hw,hq,u0,u1,hy,Pl,hx,WK];rfl
      ·exact⟨k+1,_,_,(by simp only[EV,seval,h2]),(by simp only[EV,seval,wF]),(by simp only[EV,seval,h4]),(by simp only[EV,seval,Dr]),(by simp only[EV,seval,h7]),(by simp only[EV,seval];rfl),(by simp only[EV,seval,h1]),(by simp only[EV,seval]),by omega,by omega,(by simp only[EV,seval];rfl),(by rw[hs];(try simp only[List.nil_append]);exact .inr (.inr ⟨_,rfl,(by simp only[EV,seval]<;>omega),(by simp only[EV,seval]<;>rfl)⟩)),(by rw[hs];(try simp only[List.nil_append]);exact .inr ⟨_,rfl,(by simp only[EV,seval]<;>omega),(by simp only[EV,seval]<;>rfl)⟩)⟩
   ·have Vg:zY ns i k=false:=by simpa using Ml
    have hs:oA ns i (k+1)=((oA ns i k).1,(oA ns i k).2++[-1]):=by simp[oA,Vg]
    rcases hy with ⟨rfl,hy⟩|⟨g,rfl,hg,hy⟩|⟨g,rfl,hg,hy⟩<;>rcases hx with ⟨rfl,hx⟩|⟨g',rfl,YV,hx⟩
    ·rw[hy,hx] at hs;apply oN ((ns.length-(k+1)))
     ·simp only[ZZ,seval,h2,wF,h4,Dr,h7,Fi,h1,h9,h8,bA,k0,Mm ns hu hn,Vg,hw];rfl
     ·exact⟨k+1,_,_,(by simp only[EV,seval,h2]),(by simp only[EV,seval,wF]),(by simp only[EV,seval,h4]),(by simp only[EV,seval,Dr]),(by simp only[EV,seval,h7]),(by simp only[EV,seval,Fi];rfl),(by simp only[EV,seval,h1]),(by simp only[EV,seval]),by omega,by omega,(by simp only[EV,seval];rfl),(by rw[hs];(try simp only[List.nil_append]);exact .inr (.inl ⟨_,rfl,(by simp only[EV,seval]<;>omega),(by simp only[EV,seval]<;>rfl)⟩)),(by rw[hs];exact .inl ⟨rfl,rfl⟩)⟩
    ·rw[hy] at hs;apply oN ((ns.length-(k+1)))
     ·simp only[ZZ,seval,h2,wF,h4,Dr,h7,Fi,h1,h9,h8,bA,k0,Mm ns hu hn,Vg,hw,hx,WK];rfl
     ·exact⟨k+1,_,_,(by simp only[EV,seval,h2]),(by simp only[EV,seval,wF]),(by simp only[EV,seval,h4]),(by simp only[EV,seval,Dr]),(by simp only[EV,seval,h7]),(by simp only[EV,seval,Fi];rfl),(by simp only[EV,seval,h1]),(by simp only[EV,seval]),by omega,by omega,(by simp only[EV,seval];rfl),(by rw[hs];(try simp only[List.nil_append]);exact .inr (.inl ⟨_,rfl,(by simp only[EV,seval]<;>omega),(by simp only[EV,seval]<;>rfl)⟩)),(by rw[hs];exact .inr ⟨_,rfl,(by simp only[EV,seval]<;>omega),(by simp only[EV,seval,hx])⟩)⟩
    ·rw[hx] at hs;apply oN ((ns.length-(k+1)))
     ·simp only[ZZ,seval,h2,wF,h4,Dr,h7,Fi,h1,h9,h8,bA,k0,Mm ns hu hn,Vg,hw,hy,Pl];rfl
     ·exact⟨k+1,_,_,(by simp only[EV,seval,h2]),(by simp only[EV,seval,wF]),(by simp only[EV,seval,h4]),(by simp only[EV,seval,Dr]),(by simp only[EV,seval,h7]),(by simp only[EV,seval,Fi];rfl),(by simp only[EV,seval,h1]),(by simp only[EV,seval]),by omega,by omega,(by simp only[EV,seval];rfl),(by rw[hs];(try simp only[List.nil_append]);exact .inr (.inl ⟨_,rfl,(by simp only[EV,seval]<;>omega),(by simp only[EV,seval]<;>rfl)⟩)),(by rw[hs];exact .inl ⟨rfl,rfl⟩)⟩
    ·apply oN ((ns.length-(k+1)))
     ·simp only[ZZ,seval,h2,wF,h4,Dr,h7,Fi,h1,h9,h8,bA,k0,Mm ns hu hn,Vg,hw,hy,Pl,hx,WK];rfl
     ·exact⟨k+1,_,_,(by simp only[EV,seval,h2]),(by simp only[EV,seval,wF]),(by simp only[EV,seval,h4]),(by simp only[EV,seval,Dr]),(by simp only[EV,seval,h7]),(by simp only[EV,seval,Fi];rfl),(by simp only[EV,seval,h1]),(by simp only[EV,seval]),by omega,by omega,(by simp only[EV,seval];rfl),(by rw[hs];(try simp only[List.nil_append]);exact .inr (.inl ⟨_,rfl,(by simp only[EV,seval]<;>omega),(by simp only[EV,seval]<;>rfl)⟩)),(by rw[hs];exact .inr ⟨_,rfl,(by simp only[EV,seval]<;>omega),(by simp only[EV,seval,hx])⟩)⟩
    ·rw[hx] at hs;apply oN ((ns.length-(k+1)))
     ·simp only[ZZ,seval,h2,wF,h4,Dr,h7,Fi,h1,h9,h8,bA,k0,Mm ns hu hn,Vg,hw,hy,Pl];rfl
     ·exact⟨k+1,_,_,(by simp only[EV,seval,h2]),(by simp only[EV,seval,wF]),(by simp only[EV,seval,h4]),(by simp only[EV,seval,Dr]),(by simp only[EV,seval,h7]),(by simp only[EV,seval,Fi];rfl),(by simp only[EV,seval,h1]),(by simp only[EV,seval]),by omega,by omega,(by simp only[EV,seval];rfl),(by rw[hs];(try simp only[List.nil_append]);exact .inr (.inl ⟨_,rfl,(by simp only[EV,seval]<;>omega),(by simp only[EV,seval]<;>rfl)⟩)),(by rw[hs];exact .inl ⟨rfl,rfl⟩)⟩
    ·apply oN ((ns.length-(k+1)))
     ·simp only[ZZ,seval,h2,wF,h4,Dr,h7,Fi,h1,h9,h8,bA,k0,Mm ns hu hn,Vg,hw,hy,Pl,hx,WK];rfl
     ·exact⟨k+1,_,_,(by simp only[EV,seval,h2]),(by simp only[EV,seval,wF]),(by simp only[EV,seval,h4]),(by simp only[EV,seval,Dr]),(by simp only[EV,seval,h7]),(by simp only[EV,seval,Fi];rfl),(by simp only[EV,seval,h1]),(by simp only[EV,seval]),by omega,by omega,(by simp only[EV,seval];rfl),(by rw[hs];(try simp only[List.nil_append]);exact .inr (.inl ⟨_,rfl,(by simp only[EV,seval]<;>omega),(by simp only[EV,seval]<;>rfl)⟩)),(by rw[hs];exact .inr ⟨_,rfl,(by simp only[EV,seval]<;>omega),(by simp only[EV,seval,hx])⟩)⟩
  ·have De:k=ns.length:=by omega
   subst De;apply oT (.exit 0)
   ·simp only[ZZ,seval,h2,wF,h4,Dr,h7,Fi,h1,h9,h8,bA];rfl
   ·exact⟨rfl,x,y,(by simp only[EV,seval,h4]),(by simp only[EV,seval,Dr]),(by simp only[EV,seval,h7]),(by simp only[EV,seval,Fi]),(by simp only[EV,seval,h8]),hy,hx⟩
 case start=>exact⟨0,_,_,(by simp only[EV,seval]),(by simp only[EV,seval]),(by simp only[EV,seval]),(by simp only[EV,seval]),(by simp only[EV,seval]),(by simp only[EV,seval]<;>rfl),(by simp only[EV,seval]),(by simp only[EV,seval]<;>rfl),by omega,by omega,(by simp only[EV,seval]<;>rfl),.inl ⟨rfl,rfl⟩,.inl ⟨rfl,rfl⟩⟩
 case rest =>
  rintro e st ⟨rfl,x,y,h4,Dr,h7,Fi,h8,hy,hx⟩
  have hlen:=Dq ns i ns.length
  have gN:=aEB ns hu i0 i1
  rcases hy with ⟨rfl,hy⟩|⟨g,rfl,hg,hy⟩|⟨g,rfl,hg,hy⟩<;>rcases hx with ⟨rfl,hx⟩|⟨g',rfl,YV,hx⟩
  ·exact absurd hx gN
  ·rw[hy] at hlen;simp at hlen;omega
  ·exact absurd hx gN
  ·simp only[ZZ,seval,h4,Dr,h7,Fi,h8];exact gD rfl (by simp only[bS,ZZ,seval,h4,Dr,h7,Fi,h8];rfl) (by simp only[bS,EV,seval]<;>rfl) (by simp only[bS,EV,seval]<;>rfl) (by simp only[EV,seval,hx,Option.map_some]<;>rfl) (by simp only[EV,seval,hy]) (by simp only[EV,seval])
  ·exact absurd hx gN
  ·simp only[ZZ,seval,h4,Dr,h7,Fi,h8];exact gD rfl (by simp only[bS,ZZ,seval,h4,Dr,h7,Fi,h8];rfl) (by simp only[bS,EV,seval]<;>rfl) (by simp only[bS,EV,seval]<;>rfl) (by simp only[EV,seval,hx,Option.map_some]<;>rfl) (by simp only[EV,seval,hy]) (by simp only[EV,seval])
theorem YW {P:Program} {b:Code} {st:St} {k:Ex × St→Option (Ex × St)} {R:Ex→St→Prop} (Inv:Nat→St→Prop) (Q:Ex→St→Prop) (n:Nat)
 (step:∀n st,Inv n st→∃e st',yB P b st=some (e,st')∧((e=.normal∧∃m,m<n∧Inv m st')∨(e≠.normal∧Q e st')))
 (start:Inv n st) (rest:∀e st',Q e st'→∃e' G8,k (e,st')=some (e',G8)∧R e' G8):∃e' G8,cH (yB P (.loop b) st) k=some (e',G8)∧R e' G8:=by
 obtain⟨e,s1,h1,h2,h3⟩:=Ps Inv Q step n st start
 rw[h1];exact rest e s1 h3
theorem G9 {x:Option (Ex × St)} {st':St} {n:Nat} {Inv:Nat→St→Prop} {Q:Ex→St→Prop} (h:x=some (.normal,st')) (m:Nat) (hm:m<n) (hi:Inv m st') :
 ∃e st',x=some (e,st')∧((e=.normal∧∃m,m<n∧Inv m st')∨(e≠.normal∧Q e st')):=⟨_,_,h,.inl ⟨rfl,m,hm,hi⟩⟩
theorem YX {call:Nat→List AV→Option AV} {ops:Array Oper} {st:St} {T:Nat} {pos:String} {eG:Array Edge} (d:Nat) (x y:Operand) {a b:Int} (h1:st.ev x=.v (.int .i64 a)) (h2:st.ev y=.v (.int .i64 b)):cB Tryz.prog call ops ⟨some d,.buildSlice 22 2 #[(0,x),(1,y)],T,pos,eG,none⟩ st =
 some ((st.new d (.row 3 1 2 (aJ [a,b]))).put (some d) (.own d (st.aO d))):=by
 rw[kE];simp[Kg,ze3,cH,h1,h2,AV.jG,Value.oneCell',gJ,AV.cells,List.range,List.range.loop,aJ,pK]
theorem Ds {call:Nat→List AV→Option AV} {ops:Array Oper} {st:St} {T:Nat} {pos:String} {eG:Array Edge} (d:Nat) (x y:Operand):cB Tryz.prog call ops ⟨some d,.buildSlice 22 2 #[(0,x),(1,y)],T,pos,eG,none⟩ st =
 Kh (st.ev x) (fun a=>Kh (st.ev y) (fun b=>some ((st.new d (.row 3 1 2 (aJ [a,b]))).put (some d) (.own d (st.aO d)))) (cB Tryz.prog call ops ⟨some d,.buildSlice 22 2 #[(0,x),(1,y)],T,pos,eG,none⟩ st))
  (cB Tryz.prog call ops ⟨some d,.buildSlice 22 2 #[(0,x),(1,y)],T,pos,eG,none⟩ st):=by
 unfold Kh;split
 ·rename_i a h1;try dsimp only
  split
  ·rename_i b h2;exact YX d x y h1 h2
  ·rfl
 ·rfl
def Fj (ns:List Node) (i:Int):Nat→List Int
 | 0=>[]
 | k+1=>if zY ns i k=true then Fj ns i k++[(k:Int)] else Fj ns i k
theorem Ub (ns:List Node) (i:Int):∀k,(Fj ns i k).length≤k
 | 0=>Nat.le_refl _
 | k+1=>by
   have:=Ub ns i k
   simp only[Fj];split
   ·simp;omega
   ·omega
theorem RE {ns:List Node} (hu:gU ns) {i:Int} (i0:0≤i) (i1:i<ns.length):∀k:Nat,i<k→Fj ns i k≠[]
 | 0,h=>by omega
 | k+1,h=>by
   simp only[Fj];by_cases hk:i=k
   ·rw[if_pos (by unfold zY;rw[← hk];exact decide_eq_true (xM hu i0 i1))];simp
   ·have:=RE hu i0 i1 k (by omega)
    split
    ·simp
    ·exact this
theorem WL (ns:List Node) (i x:Int):∀k:Nat,x∈Fj ns i k↔(0≤x∧x<k)∧zY ns i x=true
 | 0=>by simp[Fj];intro h h';omega
 | k+1=>by
   have ih:=WL ns i x k
   simp only[Fj];split
   ·rename_i h;rw[List.mem_append,ih,List.mem_singleton];constructor
    ·rintro (⟨h1,h2⟩|rfl)
     ·exact⟨by omega,h2⟩
     ·exact⟨by omega,h⟩
    ·rintro⟨h1,h2⟩
     by_cases hk:x=k
     ·exact .inr hk
     ·exact .inl ⟨by omega,h2⟩
   ·rename_i h;rw[ih];constructor
    ·rintro⟨h1,h2⟩;exact⟨by omega,h2⟩
    ·rintro⟨h1,h2⟩
     by_cases hk:x=k
     ·subst hk;exact absurd h2 h
     ·exact⟨by omega,h2⟩
def aAT (ns:List Node) (i:Int):AV:=.eB [.agg (cP ⟨(oA ns i ns.length).1⟩),.sl (oA ns i ns.length).2.length (aJ (oA ns i ns.length).2),.v (.int .i64 0)]
theorem YY (ns:List Node) (i:Int):Flat (aAT ns i):=.eB _ (mC (nG _) (Po _) (.v _))
theorem k34 (ns:List Node) (hu:gU ns) (hn:(ns.length:Int)<1000000) (i:Int) (h:0≤i∧i<ns.length) (st:St) (d:Option Nat):aP (aD Tryz.prog) 34 [.agg (cP ⟨ns⟩),.v (.int .i64 i)] st d=some { dst:=d,val:=aAT ns i }:=bT (bI (nG _) (.v _)) (c34 ns hu hn i h.1 h.2) (YY ns i)
theorem RF {ns:List Node} (hu:gU ns) {i:Int}:∀k:Nat,k≤ns.length→∀a:Int,0≤a→a<k→zY ns i a=true →
 0≤it (oA ns i k).2 a∧it (oA ns i k).2 a<(oA ns i k).1.length∧nd (oA ns i k).1 (it (oA ns i k).2 a)={ nd ns a with up:=if a=i then -1 else it (oA ns i k).2 (nd ns a).up }
 | 0,_,a,a0,a1,_=>by omega
 | k+1,hk,a,a0,a1,ha=>by
   have hl:=Dq ns i k
   have Vh:a≠i→0≤(nd ns a).up∧(nd ns a).up<a:=fun h=>by
    by_cases ha0:a=0
    ·subst ha0;rw[KA (by omega)] at ha;simp at ha;omega
    ·exact hu a (by omega) (by omega)
   by_cases hak:a<k
   ·obtain⟨h1,h2,h3⟩:=RF hu k (by omega) a a0 hak ha
    simp only[oA];split
    ·simp only
     rw[lN a0 (by omega),Ib h1 h2,h3]
     refine⟨h1,by simp;omega, ?_⟩
     by_cases CM:a=i
     ·rw[if_pos CM,if_pos CM]
     ·obtain⟨u0,u1⟩:=Vh CM
      rw[if_neg CM,if_neg CM,lN u0 (by omega)]
    ·simp only
     rw[lN a0 (by omega),h3]
     refine⟨h1,h2, ?_⟩
     by_cases CM:a=i
     ·rw[if_pos CM,if_pos CM]
     ·obtain⟨u0,u1⟩:=Vh CM
      rw[if_neg CM,if_neg CM,lN u0 (by omega)]
   ·have hak:a=k:=by omega
    subst hak;simp only[oA,ha,if_true];rw[By (by omega),CL rfl]
    refine⟨by omega,by simp<;>omega, ?_⟩
    by_cases CM:(k:Int)=i
    ·rw[if_pos CM,if_pos CM]
    ·obtain⟨u0,u1⟩:=Vh CM
     rw[if_neg CM,if_neg CM,lN u0 (by omega)]
theorem Ki (ns:List Node) (i:Int):∀(d k:Nat) (a:Int),0≤a→a<k→it (oA ns i (k+d)).2 a=it (oA ns i k).2 a
 | 0,k,a,_,_=>rfl
 | d+1,k,a,a0,a1=>by
   have ih:=Ki ns i d k a a0 a1
   have hl:=Dq ns i (k+d)
   rw[← ih,← Nat.add_assoc];simp only[oA];split
   ·simp only;rw[lN a0 (by omega)]
   ·simp only;rw[lN a0 (by omega)]
theorem aAU {ns:List Node} {i:Int} {n:Nat} {k:Nat} (hk:k<n) (ha:zY ns i k=true):it (oA ns i n).2 k=(oA ns i k).1.length:=by
 obtain⟨d,rfl⟩:∃d,n=k+1+d:=⟨n-(k+1),by omega⟩
 rw[Ki ns i d (k+1) k (by omega) (by omega)]
 have hl:=Dq ns i k
 simp only[oA,ha,if_true];rw[By (by omega)]
theorem H0 {ns:List Node} (hu:gU ns) {i:Int} {n:Nat} (hn:n≤ns.length) {a b:Int} (a0:0≤a) (hab:a<b) (hb:b<n) (ha:zY ns i a=true) (mZ:zY ns i b=true):it (oA ns i n).2 a<it (oA ns i n).2 b:=by
 obtain⟨k,rfl⟩:∃k:Nat,b=k:=⟨b.toNat,by omega⟩
 rw[aAU (by omega) mZ]
 obtain⟨d,rfl⟩:∃d,n=k+d:=⟨n-k,by omega⟩
 rw[Ki ns i d k a a0 hab];exact (RF hu k (by omega) a a0 hab ha).2.1
theorem Mn (ns:List Node) (i:Int):∀(k:Nat) (m:Int),0≤m→m<(oA ns i k).1.length→∃a:Int,0≤a∧a<k∧zY ns i a=true∧it (oA ns i k).2 a=m
 | 0,m,m0,m1=>by simp[oA] at m1;omega
 | k+1,m,m0,m1=>by
   have hl:=Dq ns i k
   simp only[oA] at m1 ⊢;split at m1
   ·rename_i h;rw[if_pos h];simp only at m1 ⊢
    by_cases hm:m<(oA ns i k).1.length
    ·obtain⟨a,a0,a1,ha,he⟩:=Mn ns i k m m0 hm
     exact⟨a,a0,by omega,ha,by rw[lN a0 (by omega)];exact he⟩
    ·simp at m1
     exact⟨k,by omega,by omega,h,by rw[By (by omega)];omega⟩
   ·rename_i h;rw[if_neg h];simp only at m1 ⊢
    obtain⟨a,a0,a1,ha,he⟩:=Mn ns i k m m0 m1
    exact⟨a,a0,by omega,ha,by rw[lN a0 (by omega)];exact he⟩
end Go.Ab.Tryz
section
namespace Go.Ab.Tryz
open Classical Go.Proofs Go.Ab
variable {ns:List Node} {i:Int}
theorem KB (hu:gU ns) {a:Int} (ha:zY ns i a=true):0≤it (oA ns i ns.length).2 a∧it (oA ns i ns.length).2 a<(oA ns i ns.length).1.length∧nd (oA ns i ns.length).1 (it (oA ns i ns.length).2 a)={ nd ns a with up:=if a=i then -1 else it (oA ns i ns.length).2 (nd ns a).up }:=by
 have h:=(Vf hu ha).2
 exact RF hu ns.length (Nat.le_refl _) a h.1 h.2 ha
theorem WM (hu:gU ns) {a b:Int} (hab:a<b) (ha:zY ns i a=true) (hb:zY ns i b=true):it (oA ns i ns.length).2 a<it (oA ns i ns.length).2 b :=
 H0 hu (Nat.le_refl _) (Vf hu ha).2.1 hab (Vf hu hb).2.2 ha hb
theorem WN (hu:gU ns) (hi:zY ns i i=true):it (oA ns i ns.length).2 i=0:=by
 obtain⟨h1,h2,_⟩:=KB hu hi
 obtain⟨a,a0,a1,ha,he⟩:=Mn ns i ns.length 0 (Int.le_refl 0) (by omega)
 have:=G7 hu ha
 by_cases h:i=a
 ·rw[h] at he ⊢;rw[← h] at he ⊢;exact he
 ·have:=WM hu (show i<a by omega) hi ha
  omega
theorem aIp (hu:gU ns) {a:Int} (ha:zY ns i a=true) (h:a≠i):0<a∧(0≤(nd ns a).up∧(nd ns a).up<a)∧zY ns i (nd ns a).up=true:=by
 obtain⟨⟨i0,_⟩,a0,a1⟩:=Vf hu ha
 have:=G7 hu ha
 have hp:0<a:=by omega
 refine⟨hp,hu a hp a1, ?_⟩
 rw[← aEA hu a1 (by omega) i0];exact ha
theorem aAV (hu:gU ns) (hi:zY ns i i=true):gU (oA ns i ns.length).1:=by
 intro m m0 m1;obtain⟨a,a0,a1,ha,rfl⟩:=Mn ns i ns.length m (by omega) m1
 have CM:a≠i:=by rintro rfl;rw[WN hu hi] at m0;omega
 obtain⟨_,⟨u0,u1⟩,Vh⟩:=aIp hu ha CM
 rw[(KB hu ha).2.2];simp only[if_neg CM];exact⟨(KB hu Vh).1,WM hu u1 Vh ha⟩
end Go.Ab.Tryz
end
namespace Go.Ab.Tryz
open Classical Go.Proofs Go.Ab
structure Vld (ns:List Node):Prop where
 YZ:0<ns.length
 aTv:ns.length≤4096
 KC:(nd ns 0).up=-1
 up:gU ns
 par:∀i:Int,0<i→i<ns.length→(nd ns i).block.parent=(nd ns (nd ns i).up).block.root
 slot:∀i:Int,0<i→i<ns.length→(nd ns (nd ns i).up).block.slot<(nd ns i).block.slot
 roots:∀i j:Int,0≤i→i<j→j<ns.length→(nd ns i).block.root≠(nd ns j).block.root
 st:∀i:Int,0≤i→i<ns.length→RC (nd ns i).status=true
end Go.Ab.Tryz
namespace Go.Ab.Tryz
open Classical Go.Proofs Go.Ab
end Go.Ab.Tryz
namespace Go.Ab.Tryz
open Classical Go.Proofs Go.Ab
noncomputable def Vi (st:St) (e:Option mI) (o:Nat):Option AV :=
 match e with
 | some (.cells cs)=>(cF (cs.map (wQ st))).map fun ds=>.ip ds o
 | _=>none
theorem Ic (st:St) (f s g o:Nat):eT st (.Bp f [.ptr s g o])=(Vi st (st.heap s g) o).map fun y=>.Bp f [y]:=by
 have hn:¬Flat (.Bp f [.ptr s g o]):=by intro h;cases h with|Bp _ _ h=>exact Mo s g o (h _ (by simp))
 unfold eT Vi;rw[if_neg hn];simp only[List.map_cons,List.map_nil];unfold cI;rw[if_neg (Mo s g o)];simp only
 cases st.heap s g with
 | none=>rfl
 | some e=>cases e with
   | cells cs =>
     simp only
     cases cF (cs.map (wQ st))<;>rfl
   | _=>rfl
theorem Kj (st:St) {cs:List AV} (h:∀c∈cs,Flat c) (o:Nat):Vi st (some (.cells cs)) o=some (.ip cs o):=by
 unfold Vi;simp only[Ry h,Option.map_some]
theorem RH (st:St) (r:cC) (o:Nat):Vi st (some (.cells (aV r))) o=some (.ip (aV r) o):=Kj st (dD r) o
theorem aNg (n:Node) (r:cC):aD Tryz.prog 151 [.agg (fW n),.ip (aV r) 0]=some (.v (.bool (decide (n.block.root=r)))):=by
 rw[cL Tryz.func151 rfl aIq rfl];simp only[ZZ,seval];exact bX rfl (by simp only[EV,seval]) (.v _)
theorem aAW (r:cC):Flat (.ip (aV r) 0):=.ip _ _ (dD r)
theorem aIr (n:Node) (r:cC) (st:St) (d:Option Nat):aP (aD Tryz.prog) 151 ([.agg (fW n)]++[.ip (aV r) 0]) st d=some { dst:=d,val:=.v (.bool (decide (n.block.root=r)))}:=bT (bI (.agg _ (Kk n)) (aAW r)) (aNg n r) (.v _)
theorem aNh (ns:List Node) (hn:(ns.length:Int)<1000000) (r:cC):aD Tryz.prog 150 [.sl ns.length (bZ ns),.Bp 151 [.ip (aV r) 0]]=some (.v (.int .i64 (aM ns r))):=by
 rw[cL Tryz.func150 rfl aIs rfl];simp only[ZZ,seval];refine lB (fun n st=>∃i:Int,(st.env 0=.sl ns.length (bZ ns)∧st.env 1=.Bp 151 [.ip (aV r) 0]∧st.env 7=.v (.int .i64 ns.length)∧st.env 8=.v (.int .i64 i))∧0≤i∧i≤ns.length∧n=(ns.length-i).toNat∧∀j,0≤j→j<i→(nd ns j).block.root≠r)
  (fun e st=>(e=.ret∧st.env 4=.v (.int .i64 (aM ns r)))∨(e=.exit 0∧aM ns r=-1)) ns.length ?step ?start ?rest
 case step =>
  rintro n st ⟨i,hI,i0,i1,Hz,hb⟩
  by_cases bA:i<ns.length
  ·have hw:IntKind.i64.wrap (i+1)=i+1:=Gc _ (by omega) (by omega)
   by_cases hr:(nd ns i).block.root=r
   ·have hd:decide ((nd ns i).block.root=r)=true:=decide_eq_true hr
    apply oT (.ret)
    ·simp only[ZZ,seval,hI,bA,i0,aIr,hd];rfl
    ·exact .inl ⟨rfl,by simp only[EV,seval,Vj i0 bA hr hb]⟩
   ·have hd:decide ((nd ns i).block.root=r)=false:=decide_eq_false hr
    apply oN ((ns.length-(i+1)).toNat)
    ·simp only[ZZ,seval,hI,bA,i0,aIr,hd,hw];rfl
    ·exact⟨i+1,by simp only[EV,seval,hI],by omega,by omega,rfl,fun j j0 j1=>by
     rcases Int.lt_or_eq_of_le (show j≤i by omega) with h|rfl
     ·exact hb j j0 h
     ·exact hr⟩
  ·apply oT (.exit 0)
   ·simp only[ZZ,seval,hI,bA,i0];rfl
   ·exact .inr ⟨rfl,Vk fun j j0 j1=>hb j j0 (by omega)⟩
 case start=>exact⟨0,(by simp only[EV,seval]),by omega,by omega,by omega,fun j _ _=>by omega⟩
 case rest =>
  rintro e st (⟨rfl,h⟩|⟨rfl,h⟩)
  ·simp only[ZZ,seval];exact bX rfl h (.v _)
  ·simp only[ZZ,seval];exact bX rfl (by simp only[EV,seval,h]) (.v _)
theorem aNi (args:List AV) (st:St) (d:Option Nat):aP (aD Tryz.prog) 150 args st d=rO (aD Tryz.prog) 150 (cF (args.map (eT st))) (decide (∀x∈args,Flat x)) st d:=lC _ _ _ _ _
theorem aNj (ns:List Node) (hn:(ns.length:Int)<1000000) (r:cC) (fl:Bool) (st:St) (d:Option Nat):rO (aD Tryz.prog) 150 (some [.sl ns.length (bZ ns),.Bp 151 [.ip (aV r) 0]]) fl st d=some { dst:=d,val:=.v (.int .i64 (aM ns r))}:=Vl (aNh ns hn r)
theorem H2 (st:St) (n:Nat) (l:List Node):eT st (.sl n (bZ l))=some (.sl n (bZ l)):=dL (.sl _ _ (jQ l))
theorem c89 (ns:List Node) (r:cC) (hn:(ns.length:Int)<1000000):aD Tryz.prog 89 [.agg (cP ⟨ns⟩),.agg (aV r)]=some (.v (.int .i64 (aM ns r))):=by
 rw[cL Tryz.func89 rfl aNk rfl];simp only[ZZ,seval,aNi,Ic,RH,H2,aNj,hn];exact bX rfl (by simp only[EV,seval]) (.v _)
theorem k89 (ns:List Node) (r:cC) (hn:(ns.length:Int)<1000000) (st:St) (d:Option Nat):aP (aD Tryz.prog) 89 [.agg (cP ⟨ns⟩),.agg (aV r)] st d=some { dst:=d,val:=.v (.int .i64 (aM ns r))}:=bT (bI (nG _) (pZ _)) (c89 ns r hn) (.v _)
end Go.Ab.Tryz
namespace Go.Ab.Tryz
open Classical Go.Proofs Go.Ab
end Go.Ab.Tryz
namespace Go.Ab.Tryz
open Classical Go.Proofs Go.Ab
noncomputable def H3 (l:List Int):AV:=if l=[] then .v (.slice none 0 0) else .uniq 3 1 l.length (aJ l)
theorem Mp:H3 []=.v (.slice none 0 0):=if_pos rfl
theorem EM {l:List Int} (h:l≠[]):H3 l=.uniq 3 1 l.length (aJ l):=if_neg h
def Rz (ns:List Node) (i:Int):Nat→List Int
 | 0=>[]
 | k+1=>if (nd ns k).up=i then Rz ns i k++[(k:Int)] else Rz ns i k
theorem Uc (ns:List Node) (i:Int):∀k,(Rz ns i k).length≤k
 | 0=>Nat.le_refl _
 | k+1=>by
   have:=Uc ns i k
   simp only[Rz];split
   ·simp;omega
   ·omega
theorem KD {ns:List Node} {i:Int}:∀k:Nat,(∀j:Int,0≤j→j<k→(nd ns j).up≠i)→Rz ns i k=[]
 | 0,_=>rfl
 | k+1,h=>by
   simp only[Rz];rw[if_neg (h k (by omega) (by omega))]
   exact KD k fun j j0 j1=>h j j0 (by omega)
theorem aIt {ns:List Node} (hu:gU ns) (hr:(nd ns 0).up=-1) {j:Int} (j0:0≤j) (j1:j<ns.length):(nd ns j).up<ns.length:=by
 by_cases h:j=0
 ·subst h;omega
 ·have:=hu j (by omega) j1;omega
def vN (ns:List Node) (i:Int):List Int:=if i<0 then [] else Rz ns i ns.length
theorem KE {ns:List Node} (hu:gU ns) (hr:(nd ns 0).up=-1) {i:Int} (h:¬(0≤i∧i<ns.length)):vN ns i=[]:=by
 unfold vN;split
 ·rfl
 ·exact KD _ fun j j0 j1=>by have:=aIt hu hr j0 j1;omega
theorem aIu (ns:List Node) (hu:gU ns) (hr:(nd ns 0).up=-1) (hn:(ns.length:Int)<1000000) (i:Int):aD Tryz.prog 245 [.agg (cP ⟨ns⟩),.v (.int .i64 i)]=some (H3 (vN ns i)):=by
 rw[cL Tryz.func245 rfl aIv rfl];by_cases hm:0≤i∧i<ns.length
 ·have hd:(decide (0≤i) && decide (i<ns.length))=true:=by simp[hm.1,hm.2]
  rw[show vN ns i=Rz ns i ns.length from if_neg (by omega)]
  simp only[ZZ,seval];refine lB (fun n st=>∃k:Nat,(st.env 1=.v (.int .i64 i)∧st.env 2=.ptr 2 0 0∧st.heap 2 0=some (.cells (cP ⟨ns⟩))∧st.env 6=.v (.int .i64 k)) ∧
   ((Rz ns i k=[]∧st.env 5=.v (.slice none 0 0))∨(Rz ns i k≠[]∧∃g,st.env 5=.own 30 g∧g<st.aO 30∧st.heap 30 g=some (.row 3 1 (Rz ns i k).length (aJ (Rz ns i k)))))∧k≤ns.length∧n=ns.length-k)
   (fun e st=>e=.exit 0∧((Rz ns i ns.length=[]∧st.env 5=.v (.slice none 0 0))∨(Rz ns i ns.length≠[]∧∃g,st.env 5=.own 30 g∧g<st.aO 30∧st.heap 30 g=some (.row 3 1 (Rz ns i ns.length).length (aJ (Rz ns i ns.length)))))) ns.length ?step ?start ?rest
  case step =>
   rintro n st ⟨k,hI,h5,hk,Hz⟩
   have hl:=Uc ns i k
   have Df:((Rz ns i k).length:Int)<1000000:=by omega
   by_cases bA:(k:Int)<ns.length
   ·have hw:IntKind.i64.wrap ((k:Int)+1)=((k+1:Nat):Int):=by rw[Gc _ (by omega) (by omega)];omega
    have q0:(0:Int)≤k:=by omega
    by_cases hu:(nd ns k).up=i
    ·have hq:((nd ns k).up == i)=true:=by simp[hu]
     have hs:Rz ns i (k+1)=Rz ns i k++[(k:Int)]:=by simp only[Rz,hu,if_true]
     rcases h5 with ⟨hy,h5⟩|⟨hy,g,h5⟩
     ·rw[hy] at hs;apply oN (ns.length-(k+1))
      ·simp only[ZZ,seval,hI,h5,bA,hw,q0,hq,QM,hd];rfl
      ·exact⟨k+1,by simp only[EV,seval,hI],.inr ⟨by rw[hs];simp,_,by simp only[EV,seval]<;>rfl,(by simp only[EV,seval]<;>omega),(by rw[hs];simp only[EV,seval]<;>rfl)⟩,by omega,rfl⟩
     ·apply oN (ns.length-(k+1))
      ·simp only[ZZ,seval,hI,h5,Df,bA,hw,q0,hq,QM,hd];rfl
      ·exact⟨k+1,by simp only[EV,seval,hI],.inr ⟨by rw[hs];simp,_,by simp only[EV,seval]<;>rfl,(by simp only[EV,seval]<;>omega),(by rw[hs];simp only[EV,seval]<;>rfl)⟩,by omega,rfl⟩
    ·have hq:((nd ns k).up == i)=false:=by simp[hu]
     have hs:Rz ns i (k+1)=Rz ns i k:=by simp only[Rz,hu,if_false]
     apply oN (ns.length-(k+1))
     ·simp only[ZZ,seval,hI,bA,hw,q0,hq,QM,hd];rfl
     ·exact⟨k+1,by simp only[EV,seval,hI],by rw[hs];simpa only[EV,seval] using h5,by omega,rfl⟩
   ·obtain rfl:k=ns.length:=by omega
    apply oT (.exit 0)
    ·simp only[ZZ,seval,hI,bA];rfl
    ·exact⟨rfl,by simpa only[EV,seval] using h5⟩
  case start=>exact⟨0,(by simp only[EV,seval]),.inl ⟨rfl,(by simp only[EV,seval])⟩,by omega,rfl⟩
  case rest =>
   rintro e st ⟨rfl,⟨hy,h5⟩|⟨hy,g,h5,hg,xO⟩⟩
   ·rw[hy,Mp];simp only[ZZ,seval,h5];exact bX rfl (by simp only[EV,seval]) (.v _)
   ·rw[EM hy];simp only[ZZ,seval,h5,xO];exact rP rfl (by simp only[EV,seval];rfl) (by simp only[EV,seval,xO]) (fG _)
 ·have hd:(decide (0≤i) && decide (i<ns.length))=false:=by
   rw[← Bool.not_eq_true];simpa using hm
  rw[KE hu hr hm,Mp];by_cases h0:(0:Int)<ns.length
  ·simp only[ZZ,seval,Gd,QM,hd,h0];exact bX rfl (by simp only[EV,seval]) (.v _)
  ·simp only[ZZ,seval,Gd,QM,hd,h0];exact bX rfl (by simp only[EV,seval]) (.v _)
theorem aIw (ns:List Node) (hu:gU ns) (hr:(nd ns 0).up=-1) (hn:(ns.length:Int)<1000000) (i:Int) (h:vN ns i≠[]) (st:St) (d:Nat):aP (aD Tryz.prog) 245 [.agg (cP ⟨ns⟩),.v (.int .i64 i)] st (some d)=some { dst:=some d,val:=.own d (st.aO d),new:=some (d,[.row 3 1 (vN ns i).length (aJ (vN ns i))])}:=by
 have hc:=aIu ns hu hr hn i
 rw[EM h] at hc;exact iW (bI (nG _) (.v _)) hc
theorem aDy (ns:List Node) (hu:gU ns) (hr:(nd ns 0).up=-1) (hn:(ns.length:Int)<1000000) (i:Int) (h:vN ns i=[]) (st:St) (d:Option Nat):aP (aD Tryz.prog) 245 [.agg (cP ⟨ns⟩),.v (.int .i64 i)] st d=some { dst:=d,val:=.v (.slice none 0 0)}:=by
 have hc:=aIu ns hu hr hn i
 rw[h,Mp] at hc;exact bT (bI (nG _) (.v _)) hc (.v _)
end Go.Ab.Tryz
namespace Go.Ab.Tryz
open Classical Go.Proofs Go.Ab
end Go.Ab.Tryz
namespace Go.Ab.Tryz
open Classical Go.Proofs Go.Ab
theorem Mq [Ext] {P:Program} {f:Nat} {fn:Func} {st:St} {e:Ex} {r:ResultVar} {x y:AV} (hk:Ext.pW f=true) (he:e=.ret∨e=.normal) (hr:fn.results.toList=[r]) (h1:bS P st r=some x) (hn:(lD x).Nodup) (hy:Bu st x=some y):zK P f fn (e,st)=some y:=by
 have h:jI P f fn st=some y:=by
  unfold jI;rw[hk,if_pos rfl];unfold Mc;rw[hr];simp only[zZ,h1,cH,if_pos hn,hy]
 rcases he with rfl|rfl<;>exact h
theorem KF [Ext] {P:Program} {f:Nat} {fn:Func} {st:St} {e:Ex} {r1 r2:ResultVar} {x1 x2 y:AV} (hk:Ext.pW f=true) (he:e=.ret∨e=.normal) (hr:fn.results.toList=[r1,r2]) (h1:bS P st r1=some x1) (h2:bS P st r2=some x2)
 (hn:(lD (.eB [x1,x2])).Nodup) (hy:Bu st (.eB [x1,x2])=some y):zK P f fn (e,st)=some y:=by
 have h:jI P f fn st=some y:=by
  unfold jI;rw[hk,if_pos rfl];unfold Mc;rw[hr];simp only[List.map_cons,List.map_nil,zZ,h1,h2,cH,cF,Option.map_some,if_pos hn,hy]
 rcases he with rfl|rfl<;>exact h
theorem CN {st:St} {s g e sz n:Nat} {cs:List AV} (h:st.heap s g=some (.row e sz n cs)) (hf:∀c∈cs,Flat c):rI st (.agg [.own s g])=some (.agg [.uniq e sz n cs]):=by
 simp only[rI,List.map_cons,List.map_nil,jV,if_neg (mK s g),h,if_pos hf,cF,Option.map_some]
theorem ZA (st:St):rI st (.agg [.v (.slice none 0 0)])=some (.agg [.v (.slice none 0 0)]):=by
 simp only[rI,List.map_cons,List.map_nil,jV,if_pos (Flat.v _),cF,Option.map_some]
theorem WO (st:St) (x:Value):rI st (.v x)=some (.v x):=by simp only[rI,jV,if_pos (Flat.v x)]
theorem CO {st:St} {a b x y:AV} (h1:rI st a=some x) (h2:rI st b=some y):Bu st (.eB [a,b])=some (.eB [x,y]):=by
 simp only[Bu,List.map_cons,List.map_nil,h1,h2,cF,Option.map_some]
theorem ZB {st:St} {cs:List AV} {x:AV} (h1:rI st (.agg cs)=some x):Bu st (.agg cs)=some x:=h1
theorem Jk (e sz n:Nat) (cs:List AV):¬Flat (.uniq e sz n cs):=by intro h;cases h
theorem ZD {e sz n:Nat} {cs:List AV} {st:St} {d:Nat}:iR (.agg [.uniq e sz n cs]) st (some d)=some { dst:=some d,val:=.agg [.own d (st.aO d)],new:=some (d,[.row e sz n cs])}:=by
 have hn:¬Flat (.agg [.uniq e sz n cs]):=by intro h;cases h with|agg _ h=>exact Jk e sz n cs (h _ (by simp))
 unfold iR;rw[if_neg hn];rfl
theorem ZE {e sz n:Nat} {cs:List AV} {x:Value} {st:St} {d:Nat}:iR (.eB [.agg [.uniq e sz n cs],.v x]) st (some d)=some { dst:=some d,val:=.eB [.agg [.own d (st.aO d)],.v x],new:=some (d,[.row e sz n cs])}:=by
 have hn:¬Flat (.eB [.agg [.uniq e sz n cs],.v x]):=by
  intro h;cases h with
  | eB _ h =>
    have:=h (.agg [.uniq e sz n cs]) (by simp)
    cases this with
    | agg _ h=>exact Jk e sz n cs (h _ (by simp))
 unfold iR;rw[if_neg hn];rfl
theorem aAX {call:Nat→List AV→Option AV} {g:Nat} {args:List AV} {d e sz n:Nat} {cs:List AV} {st:St} (hf:∀x∈args,Flat x) (h:call g args=some (.agg [.uniq e sz n cs])):aP call g args st (some d)=some { dst:=some d,val:=.agg [.own d (st.aO d)],new:=some (d,[.row e sz n cs])}:=by
 unfold aP;rw[if_pos hf,h];exact ZD
theorem aIx {call:Nat→List AV→Option AV} {g:Nat} {xs:List AV} {d e sz n:Nat} {cs:List AV} {x:Value} {fl:Bool} {st:St} (h:call g xs=some (.eB [.agg [.uniq e sz n cs],.v x])) (hm:∀c∈cs,fF c):rO call g (some xs) fl st (some d)=some { dst:=some d,val:=.eB [.agg [.own d (st.aO d)],.v x],new:=some (d,[.row e sz n cs])}:=by
 have WQ:Us (.eB [.agg [.uniq e sz n cs],.v x]):=by
  intro y hy;rcases List.mem_cons.1 hy with rfl|hy
  ·intro c hc;simp at hc
   subst hc;exact hm
  ·simp at hy
   subst hy;exact .v _
 unfold rO;simp only[cT,h,WQ,or_true,if_true];exact ZE
theorem aIy {call:Nat→List AV→Option AV} {g:Nat} {xs:List AV} {x y:Value} {fl:Bool} {st:St} {d:Option Nat} (h:call g xs=some (.eB [.agg [.v y],.v x])):rO call g (some xs) fl st d=some { dst:=d,val:=.eB [.agg [.v y],.v x]}:=by
 have hf:∀z∈[AV.agg [.v y],.v x],Flat z:=bI (.agg _ (cO (.v _))) (.v _)
 refine ZF h ?_ (.eB _ hf)
 intro z hz;rcases List.mem_cons.1 hz with rfl|hz
 ·intro c hc;simp at hc;subst hc;exact .v _
 ·simp at hz;subst hz;exact .v _
theorem WR {z:Nat} {α:Type} (f:α→List AV) (hf:∀x,(f x).length=z):∀(l:List α) (i o:Nat) (hi:i<l.length),o<z→(l.flatMap f)[i * z+o]? = (f l[i])[o]?
 | [],i,o,hi,_=>by simp at hi
 | a :: l,0,o,_,ho=>by
   simp only[List.flatMap_cons,Nat.zero_mul,Nat.zero_add,List.getElem_cons_zero];rw[List.getElem?_append_left (by rw[hf];exact ho)]
 | a :: l,i+1,o,hi,ho=>by
   have ih:=WR f hf l i o (by simpa using hi) ho
   simp only[List.flatMap_cons,List.getElem_cons_succ];rw[List.getElem?_append_right (by rw[hf,Nat.succ_mul];omega),hf,show (i+1) * z+o-z=i * z+o by rw[Nat.succ_mul];omega]
   exact ih
theorem WS {z:Nat} {α:Type} (f:α→List AV) (hf:∀x,(f x).length=z) (o e:Nat) (xs:List AV) (hoe:o≤e) (he:e≤z):∀(l:List α) (i:Nat) (hi:i<l.length) (y:α),dJ (f l[i]) o xs e=f y→dJ (l.flatMap f) (i * z+o) xs (i * z+e)=(l.set i y).flatMap f
 | [],i,hi,_,_=>by simp at hi
 | a :: l,0,_,y,h=>by
   simp only[List.flatMap_cons,Nat.zero_mul,Nat.zero_add,List.set_cons_zero,List.getElem_cons_zero] at h ⊢;rw[← h];unfold dJ;rw[List.take_append_of_le_length (by rw[hf];omega),List.drop_append_of_le_length (by rw[hf];omega)]
   simp
 | a :: l,i+1,hi,y,h=>by
   have ih:=WS f hf o e xs hoe he l i (by simpa using hi) y (by simpa using h)
   simp only[List.flatMap_cons,List.set_cons_succ];rw[← ih];unfold dJ;have h1:(i+1) * z+o=z+(i * z+o):=by rw[Nat.succ_mul];omega
   have h2:(i+1) * z+e=z+(i * z+e):=by rw[Nat.succ_mul];omega
   rw[h1,h2,List.take_append,List.drop_append,List.take_of_length_le (by rw[hf];omega),List.drop_of_length_le (by rw[hf];omega),hf,Nat.add_sub_cancel_left,Nat.add_sub_cancel_left]
   simp
theorem ZH {l:List Bool} {xs:List AV} (h:jY l xs xs):∀c∈xs,fF c:=by
 obtain⟨us,vs,rfl,_,_⟩:=Bw _ _ _ h
 intro c hc;obtain⟨x,_,rfl⟩:=List.mem_map.1 hc
 exact .v _
theorem Vm (l:List Node):∀c∈bZ l,fF c:=fun c hc=>by
 obtain⟨n,_,h⟩:=List.mem_flatMap.1 hc
 exact ZH (RI n n) c h
theorem ZI {l:List Node} {i:Int} (h0:0≤i) (h1:i<l.length) (o:Nat) (ho:o<240):(bZ l)[i.toNat * 240+o]? = (fW (nd l i))[o]?:=by
 obtain⟨h,e⟩:=Ge h0 h1
 rw[e];exact WR fW uN l i.toNat o h ho
theorem ZJ {l:List Node} {i:Int} (h0:0≤i) (h1:i<l.length) {o e:Nat} {xs:List AV} (hoe:o≤e) (he:e≤240) {y:Node} (h:dJ (fW (nd l i)) o xs e=fW y):dJ (bZ l) (i.toNat * 240+o) xs (i.toNat * 240+e)=bZ (l.set i.toNat y):=by
 obtain⟨hi,e'⟩:=Ge h0 h1
 rw[e'] at h;exact WS fW uN o e xs hoe he l i.toNat hi y h
def Vn (n:Node) (s:Int):Node:={ n with status:=s }
def setAt (ns:List Node) (i s:Int):List Node:=ns.set i.toNat (Vn (nd ns i) s)
theorem RJ {l:List Node} {i s:Int} (h0:0≤i) (h1:i<l.length):dJ (bZ l) (i.toNat * 240+239) [.v (.int .i64 s)] (i.toNat * 240+240)=bZ (setAt l i s) :=
 ZJ h0 h1 (by decide) (by decide) (Gf (nd l i) _)
theorem RK {l:List Node} {i:Int} (h0:0≤i) (h1:i<l.length):(bZ l)[i.toNat * 240+239]? = some (.v (.int .i64 (nd l i).status)):=by
 rw[ZI h0 h1 239 (by decide)]
 exact Et (nd l i)
theorem Bz (ns:List Node) (i s:Int):(setAt ns i s).length=ns.length:=by simp[setAt]
def CP (to never:Int):List Int→List Node→Option (List Node)
 | [],ns=>some ns
 | i :: l,ns=>if (nd ns i).status=never then none else CP to never l (setAt ns i to)
theorem EO {to never:Int}:∀(l:List Int) (ns r:List Node),CP to never l ns=some r→r.length=ns.length
 | [],ns,r,h=>by simp only[CP,Option.some.injEq] at h;rw[h]
 | i :: l,ns,r,h=>by
   simp only[CP] at h;split at h
   ·cases h
   ·rw[EO l _ r h,Bz]
theorem RL {l:List Node} (h:0<l.length):bZ l≠[]:=by
 intro he;have:=congrArg List.length he
 rw[Kl] at this;simp only[List.length_nil] at this;omega
theorem aNn (l:List Node) (h0:0<l.length) (hn:(l.length:Int)<1000000):aD Tryz.prog 192 [.sl l.length (bZ l)]=some (.uniq 76 240 l.length (bZ l)):=by
 rw[cL Tryz.func192 rfl aIz rfl];have gN:=RL h0
 have ha:=fun s g=>Ie (e:=76) (sz:=240) (by_:=352) (s:=s) (g:=g) (n:=l.length) (cs:=bZ l) (by simp) (by omega) (by unfold maxLen;omega)
 simp only[ZZ,seval,gN,ha];exact rP rfl (by simp only[EV,seval];rfl) (by simp only[EV,seval]) (jQ _)
theorem aNo (l:List Node) (h0:0<l.length) (hn:(l.length:Int)<1000000) (st:St) (d:Nat):aP (aD Tryz.prog) 192 [.sl l.length (bZ l)] st (some d)=some { dst:=some d,val:=.own d (st.aO d),new:=some (d,[.row 76 240 l.length (bZ l)])}:=iW (cO (.sl _ _ (jQ l))) (aNn l h0 hn)
theorem aNp (ns:List Node) (h0:0<ns.length) (hn:(ns.length:Int)<1000000):aD Tryz.prog 165 [.agg (cP ⟨ns⟩)]=some (.agg [.uniq 76 240 ns.length (bZ ns)]):=by
 rw[cL Tryz.func165 rfl aIA rfl];have hK:=aNo ns h0 hn
 simp only[ZZ,seval,hK];refine Mq rfl (.inl rfl) rfl (x:=.agg [.own 5 0]) (by simp only[bS,ZZ,seval]) (by simp[lD,iV,gA]) (ZB (CN (by simp only[EV,seval]) (jQ _)))
theorem aNq (ns:List Node) (h0:0<ns.length) (hn:(ns.length:Int)<1000000) (st:St) (d:Nat):aP (aD Tryz.prog) 165 [.agg (cP ⟨ns⟩)] st (some d)=some { dst:=some d,val:=.agg [.own d (st.aO d)],new:=some (d,[.row 76 240 ns.length (bZ ns)])}:=aAX (cO (nG _)) (aNp ns h0 hn)
theorem aAY {l:List Int} {k:Nat} (h:k<l.length):l.drop k=it l k :: l.drop (k+1):=by
 rw[List.drop_eq_getElem_cons h];simp[it,h]
theorem aIB (s g:Nat) (x:Value):(lD (.eB [.agg [.own s g],.v x])).Nodup:=by simp[lD,iV,gA]
theorem aIC (y x:Value):(lD (.eB [.agg [.v y],.v x])).Nodup:=by simp[lD,iV,gA]
def AB (e:Int):AV:=.eB [.agg [.v (.slice none 0 0)],.v (.int .i64 e)]
def chS (o:Option (List Node)):AV :=
 match o with
 | none=>.eB [.agg [.v (.slice none 0 0)],.v (.bool false)]
 | some r=>.eB [.agg [.uniq 76 240 r.length (bZ r)],.v (.bool true)]
theorem aID (ns:List Node) (h0:0<ns.length) (hn:(ns.length:Int)<1000000) (l:List Int) (hl:(l.length:Int)<1000000) (hm:∀x∈l,0≤x∧x<ns.length) (to never:Int) :
 aD Tryz.prog 247 [.agg (cP ⟨ns⟩),.sl l.length (aJ l),.v (.int .i64 to),.v (.int .i64 never)]=some (chS (CP to never l ns)):=by
 rw[cL Tryz.func247 rfl aIE rfl];simp only[ZZ,seval,hn];refine lB (fun n st=>∃(k:Nat) (cur:List Node),(st.env 1=.sl l.length (aJ l)∧st.env 2=.v (.int .i64 to)∧st.env 3=.v (.int .i64 never)∧st.env 8=.ptr 8 0 0∧st.heap 8 0=some (.cells [.v (.slice none 0 0)])∧st.env 10=.ptr 10 0 0∧st.heap 10 0=some (.cells [.own 14 0])∧st.heap 14 0=some (.row 76 240 cur.length (bZ cur))∧st.env 11=.v (.int .i64 k))∧cur.length=ns.length∧CP to never l ns=CP to never (l.drop k) cur∧k≤l.length∧n=l.length-k)
  (fun e st=>(e=.ret∧CP to never l ns=none∧st.env 8=.ptr 8 0 0∧st.heap 8 0=some (.cells [.v (.slice none 0 0)])∧st.env 9=.v (.bool false))∨(e=.exit 0∧∃r,CP to never l ns=some r∧st.env 8=.ptr 8 0 0∧st.heap 8 0=some (.cells [.v (.slice none 0 0)])∧st.env 10=.ptr 10 0 0∧st.heap 10 0=some (.cells [.own 14 0])∧st.heap 14 0=some (.row 76 240 r.length (bZ r)))) l.length ?step ?start ?rest
 case step =>
  rintro n st ⟨k,cur,hI,Az,hc,hk,Hz⟩
  by_cases bA:(k:Int)<l.length
  ·have q0:(0:Int)≤k:=by omega
   have hw:IntKind.i64.wrap ((k:Int)+1)=((k+1:Nat):Int):=by rw[Gc _ (by omega) (by omega)];omega
   obtain⟨x0,x1⟩:=hm _ (Dp q0 bA)
   have x2:it l k<cur.length:=by omega
   rw[aAY (by omega)] at hc
   simp only[CP] at hc;have hg:=RK x0 x2
   by_cases hs:(nd cur (it l k)).status=never
   ·rw[if_pos hs] at hc;have hb:((nd cur (it l k)).status == never)=true:=by simp[hs]
    apply oT (.ret)
    ·simp only[ZZ,seval,hI,bA,q0,x0,x2,hg,hb];rfl
    ·exact .inl ⟨rfl,hc,by simp only[EV,seval,hI],by simp only[EV,seval,hI],by simp only[EV,seval,hI]⟩
   ·rw[if_neg hs] at hc;have hb:((nd cur (it l k)).status == never)=false:=by simp[hs]
    have hu:=RJ (s:=to) x0 x2
    have hle:(it l k).toNat * 240+239+1≤cur.length * 240:=by
     have:((it l k).toNat+1) * 240≤cur.length * 240:=Nat.mul_le_mul_right _ (by omega)
     omega
    have hle2:(it l k).toNat * 240+240≤cur.length * 240:=by omega
    apply oN (l.length-(k+1))
    ·simp only[ZZ,seval,hI,bA,q0,x0,x2,hg,hb,hu,hle,hle2,hw];rfl
    ·exact⟨k+1,setAt cur (it l k) to,by simp only[EV,seval,hI,Bz],by rw[Bz];exact Az,hc,by omega,rfl⟩
  ·obtain rfl:k=l.length:=by omega
   rw[List.drop_length] at hc;apply oT (.exit 0)
   ·simp only[ZZ,seval,hI,bA];rfl
   ·exact .inr ⟨rfl,cur,hc,by simp only[EV,seval,hI]⟩
 case start=>exact⟨0,ns,by simp only[EV,seval]<;>rfl,rfl,rfl,by omega,by omega⟩
 case rest =>
  rintro e st (⟨rfl,hc,hI⟩|⟨rfl,r,hc,hI⟩)
  ·rw[hc];simp only[ZZ,seval];exact KF rfl (.inl rfl) rfl (x1:=.agg [.v (.slice none 0 0)]) (x2:=.v (.bool false)) (by simp only[bS,ZZ,seval,hI]) (by simp only[bS,ZZ,seval,hI]) (aIC _ _) (CO (ZA _) (WO _ _))
  ·rw[hc];simp only[ZZ,seval,hI];exact KF rfl (.inl rfl) rfl (x1:=.agg [.own 14 0]) (x2:=.v (.bool true)) (by simp only[bS,ZZ,seval,hI]) (by simp only[bS,ZZ,seval,hI]) (aIB _ _ _) (CO (CN (by simp only[EV,seval,hI]) (jQ _)) (WO _ _))
theorem EP {ns:List Node} (hu:gU ns) {c:Int} (c0:0≤c) (c1:c<ns.length):0<(path ns c).length:=List.length_pos_iff.2 fun h=>by
 have:=xM hu c0 c1
 rw[h] at this;cases this
theorem ZK {ns:List Node} (hu:gU ns) {c:Int} (c0:0≤c) (c1:c<ns.length):it (path ns c) ((path ns c).length-1:Int)=c:=by
 by_cases h:c=0
 ·subst h;rw[qT (by omega)]
  rfl
 ·rw[qU hu (by omega) c1]
  exact By (by simp)
theorem c64 (ns:List Node) (hu:gU ns) (hn:(ns.length:Int)<1000000) (i:Int):aD Tryz.prog 64 [.agg (cP ⟨ns⟩),.v (.int .i64 i)]=some (if Fj ns i ns.length=[] then .v (.slice none 0 0) else .uniq 3 1 (Fj ns i ns.length).length (aJ (Fj ns i ns.length))):=by
 rw[cL Tryz.func64 rfl aNr rfl];have h41:=Mm ns hu hn
 simp only[ZZ,seval];refine lB (fun n st=>∃k:Nat,st.env 1=.v (.int .i64 i)∧st.env 2=.ptr 2 0 0∧st.heap 2 0=some (.cells (cP ⟨ns⟩))∧st.env 6=.v (.int .i64 k) ∧
  ((Fj ns i k=[]∧st.env 5=.v (.slice none 0 0))∨(Fj ns i k≠[]∧∃g,st.env 5=.own 21 g∧g<st.aO 21∧st.heap 21 g=some (.row 3 1 (Fj ns i k).length (aJ (Fj ns i k)))))∧k≤ns.length∧n=ns.length-k)
  (fun e st=>e=.exit 0∧((Fj ns i ns.length=[]∧st.env 5=.v (.slice none 0 0))∨(Fj ns i ns.length≠[]∧∃g,st.env 5=.own 21 g∧g<st.aO 21∧st.heap 21 g=some (.row 3 1 (Fj ns i ns.length).length (aJ (Fj ns i ns.length)))))) ns.length ?step ?start ?rest
 case step =>
  rintro n st ⟨k,h1,h2,wF,h6,h5,hk,Hz⟩
  have hdl:=Ub ns i k
  have hdl':((Fj ns i k).length:Int)<1000000:=by omega
  by_cases bA:(k:Int)<ns.length
  ·have hw:IntKind.i64.wrap ((k:Int)+1)=((k+1:Nat):Int):=by rw[Gc _ (by omega) (by omega)];omega
   cases ha:zY ns i k
   ·have hs:Fj ns i (k+1)=Fj ns i k:=by simp only[Fj,ha,Bool.false_eq_true,if_false]
    rcases h5 with ⟨hy,h5⟩|⟨hy,g,h5,hg,xO⟩
    ·apply oN (ns.length-(k+1))
     ·simp only[ZZ,seval,h1,h2,wF,h6,h5,bA,hw,h41,ha];rfl
     ·exact⟨k+1,by simp only[EV,seval,h1],by simp only[EV,seval,h2],by simp only[EV,seval,wF],(by simp only[EV,seval]),.inl ⟨by rw[hs];exact hy,by simp only[EV,seval,h5]⟩,by omega,rfl⟩
    ·apply oN (ns.length-(k+1))
     ·simp only[ZZ,seval,h1,h2,wF,h6,h5,xO,bA,hw,h41,ha];rfl
     ·exact⟨k+1,by simp only[EV,seval,h1],by simp only[EV,seval,h2],by simp only[EV,seval,wF],(by simp only[EV,seval]),.inr ⟨by rw[hs];exact hy,g,by simp only[EV,seval,h5],(by simp only[EV,seval]<;>omega),(by rw[hs];simp only[EV,seval,xO])⟩,by omega,rfl⟩
   ·have hs:Fj ns i (k+1)=Fj ns i k++[(k:Int)]:=by simp only[Fj,ha,if_true]
    rcases h5 with ⟨hy,h5⟩|⟨hy,g,h5,hg,xO⟩
    ·rw[hy] at hs;apply oN (ns.length-(k+1))
     ·simp only[ZZ,seval,h1,h2,wF,h6,h5,bA,hw,h41,ha];rfl
     ·exact⟨k+1,by simp only[EV,seval,h1],by simp only[EV,seval,h2],by simp only[EV,seval,wF],(by simp only[EV,seval]),.inr ⟨by rw[hs];simp,_,by simp only[EV,seval]<;>rfl,(by simp only[EV,seval]<;>omega),(by rw[hs];simp only[EV,seval]<;>rfl)⟩,by omega,rfl⟩
    ·apply oN (ns.length-(k+1))
     ·simp only[ZZ,seval,h1,h2,wF,h6,h5,xO,hdl',bA,hw,h41,ha];rfl
     ·exact⟨k+1,by simp only[EV,seval,h1],by simp only[EV,seval,h2],by simp only[EV,seval,wF],(by simp only[EV,seval]),.inr ⟨by rw[hs];simp,_,by simp only[EV,seval]<;>rfl,(by simp only[EV,seval]<;>omega),(by rw[hs];simp only[EV,seval]<;>rfl)⟩,by omega,rfl⟩
  ·obtain rfl:k=ns.length:=by omega
   apply oT (.exit 0)
   ·simp only[ZZ,seval,h2,wF,h6,bA];rfl
   ·exact⟨rfl,by simpa only[EV,seval] using h5⟩
 case start=>exact⟨0,(by simp only[EV,seval]),(by simp only[EV,seval]),(by simp only[EV,seval]),(by simp only[EV,seval]),.inl ⟨rfl,(by simp only[EV,seval])⟩,by omega,rfl⟩
 case rest =>
  rintro e st ⟨rfl,⟨hy,h5⟩|⟨hy,g,h5,hg,xO⟩⟩
  ·rw[if_pos hy];simp only[ZZ,seval,h5];exact bX rfl (by simp only[EV,seval]) (.v _)
  ·rw[if_neg hy];simp only[ZZ,seval,h5,xO];exact rP rfl (by simp only[EV,seval];rfl) (by simp only[EV,seval,xO]) (fG _)
theorem k64 (ns:List Node) (hu:gU ns) (hn:(ns.length:Int)<1000000) (i:Int) (h:Fj ns i ns.length≠[]) (st:St) (d:Nat):aP (aD Tryz.prog) 64 [.agg (cP ⟨ns⟩),.v (.int .i64 i)] st (some d)=some { dst:=some d,val:=.own d (st.aO d),new:=some (d,[.row 3 1 (Fj ns i ns.length).length (aJ (Fj ns i ns.length))])}:=by
 have hc:=c64 ns hu hn i
 rw[if_neg h] at hc;exact iW (bI (nG _) (.v _)) hc
end Go.Ab.Tryz
namespace Go.Ab.Tryz
open Classical Go.Proofs Go.Ab
end Go.Ab.Tryz
namespace Go.Ab.Tryz
open Classical Go.Proofs Go.Ab
theorem aAZ (args:List AV) (st:St) (d:Option Nat):aP (aD Tryz.prog) 247 args st d=rO (aD Tryz.prog) 247 (cF (args.map (eT st))) (decide (∀x∈args,Flat x)) st d:=lC _ _ _ _ _
theorem ZL:Flat (.agg [.v (.slice none 0 0)]):=.agg _ (cO (.v _))
theorem uO (e:Int):Flat (AB e):=.eB _ (bI ZL (.v _))
def stA (o:Option (List Node)):AV :=
 match o with
 | none=>AB 21
 | some r=>.eB [.agg (cP ⟨r⟩),.v (.int .i64 0)]
theorem KG (o:Option (List Node)):Flat (stA o):=by
 cases o with
 | none=>exact uO _
 | some r=>exact .eB _ (bI (nG _) (.v _))
noncomputable def raO (ns:List Node) (i:Int):Option (List Node):=CP 1 2 (path ns i) ns
noncomputable def coO (ns:List Node) (i:Int):Option (List Node):=CP 2 1 (Fj ns i ns.length) ns
noncomputable def E6 (ns:List Node) (i:Int):AV:=if 0≤i∧i<ns.length then stA (raO ns i) else AB 10
noncomputable def E7 (ns:List Node) (i:Int):AV:=if 0≤i∧i<ns.length then stA (coO ns i) else AB 10
theorem Ud {ns:List Node} (hu:gU ns) {i:Int}:∀x∈path ns i,0≤x∧x<ns.length:=fun x hx=>uM hu hx
theorem WU (ns:List Node) (i:Int):∀x∈Fj ns i ns.length,0≤x∧x<ns.length:=fun x hx=>((WL ns i x _).1 hx).1
theorem aNu (ns:List Node) (hu:gU ns) (hn:(ns.length:Int)<1000000) (i:Int):aD Tryz.prog 236 [.agg (cP ⟨ns⟩),.v (.int .i64 i)]=some (E6 ns i):=by
 rw[cL Tryz.func236 rfl aIF rfl];unfold E6;by_cases hm:0≤i∧i<ns.length
 ·rw[if_pos hm];have hd:(decide (0≤i) && decide (i<ns.length))=true:=by simp[hm.1,hm.2]
  have h45:=k76 ns hu hn i hm.1 hm.2
  have hpl:=zX hu i
  have hc:=aID ns (by omega) hn (path ns i) (by omega) (Ud hu) 1 2
  unfold raO;cases ho:CP 1 2 (path ns i) ns with
  | none =>
    rw[ho] at hc;have hK:=fun (fl:Bool) (st:St) (d:Option Nat)=>aIy (fl:=fl) (st:=st) (d:=d) hc
    simp only[ZZ,seval,QM,hd,h45,aAZ,hK,dT];exact dM rfl (by simp only[bS,ZZ,seval];rfl) (by simp only[bS,EV,seval]<;>rfl) (by simp only[EV,seval]<;>rfl) (by simp only[EV,seval]<;>rfl)
  | some r =>
    rw[ho] at hc;have hK:=fun (fl:Bool) (st:St) (d:Nat)=>aIx (fl:=fl) (st:=st) (d:=d) hc (Vm r)
    simp only[ZZ,seval,QM,hd,h45,aAZ,hK,dT];exact dM rfl (by simp only[bS,ZZ,seval];rfl) (by simp only[bS,EV,seval]<;>rfl) (by simp only[EV,seval]<;>rfl) (by simp only[EV,seval]<;>rfl)
 ·rw[if_neg hm];have hd:(decide (0≤i) && decide (i<ns.length))=false:=by rw[← Bool.not_eq_true];simpa using hm
  simp only[ZZ,seval,QM,hd];exact dM rfl (by simp only[bS,ZZ,seval];rfl) (by simp only[bS,EV,seval]<;>rfl) (by simp only[EV,seval]<;>rfl) (by simp only[EV,seval]<;>rfl)
theorem aNv (ns:List Node) (hu:gU ns) (hn:(ns.length:Int)<1000000) (i:Int):aD Tryz.prog 238 [.agg (cP ⟨ns⟩),.v (.int .i64 i)]=some (E7 ns i):=by
 rw[cL Tryz.func238 rfl aIG rfl];unfold E7;by_cases hm:0≤i∧i<ns.length
 ·rw[if_pos hm];have hd:(decide (0≤i) && decide (i<ns.length))=true:=by simp[hm.1,hm.2]
  have h36:=k64 ns hu hn i (RE hu hm.1 hm.2 _ hm.2)
  have hdl:=Ub ns i ns.length
  have hc:=aID ns (by omega) hn (Fj ns i ns.length) (by omega) (WU ns i) 2 1
  unfold coO;cases ho:CP 2 1 (Fj ns i ns.length) ns with
  | none =>
    rw[ho] at hc;have hK:=fun (fl:Bool) (st:St) (d:Option Nat)=>aIy (fl:=fl) (st:=st) (d:=d) hc
    simp only[ZZ,seval,QM,hd,h36,aAZ,hK,dT];exact dM rfl (by simp only[bS,ZZ,seval];rfl) (by simp only[bS,EV,seval]<;>rfl) (by simp only[EV,seval]<;>rfl) (by simp only[EV,seval]<;>rfl)
  | some r =>
    rw[ho] at hc;have hK:=fun (fl:Bool) (st:St) (d:Nat)=>aIx (fl:=fl) (st:=st) (d:=d) hc (Vm r)
    simp only[ZZ,seval,QM,hd,h36,aAZ,hK,dT];exact dM rfl (by simp only[bS,ZZ,seval];rfl) (by simp only[bS,EV,seval]<;>rfl) (by simp only[EV,seval]<;>rfl) (by simp only[EV,seval]<;>rfl)
 ·rw[if_neg hm];have hd:(decide (0≤i) && decide (i<ns.length))=false:=by rw[← Bool.not_eq_true];simpa using hm
  simp only[ZZ,seval,QM,hd];exact dM rfl (by simp only[bS,ZZ,seval];rfl) (by simp only[bS,EV,seval]<;>rfl) (by simp only[EV,seval]<;>rfl) (by simp only[EV,seval]<;>rfl)
theorem KH (ns:List Node) (i:Int):Flat (E6 ns i):=by unfold E6;split;exact KG _;exact uO _
theorem Vo (ns:List Node) (i:Int):Flat (E7 ns i):=by unfold E7;split;exact KG _;exact uO _
theorem aIH (ns:List Node) (hu:gU ns) (hn:(ns.length:Int)<1000000) (i:Int) (st:St) (d:Option Nat):aP (aD Tryz.prog) 236 [.agg (cP ⟨ns⟩),.v (.int .i64 i)] st d=some { dst:=d,val:=E6 ns i }:=bT (bI (nG _) (.v _)) (aNu ns hu hn i) (KH ns i)
theorem aII (ns:List Node) (hu:gU ns) (hn:(ns.length:Int)<1000000) (i:Int) (st:St) (d:Option Nat):aP (aD Tryz.prog) 238 [.agg (cP ⟨ns⟩),.v (.int .i64 i)] st d=some { dst:=d,val:=E7 ns i }:=bT (bI (nG _) (.v _)) (aNv ns hu hn i) (Vo ns i)
end Go.Ab.Tryz
namespace Go.Ab.Tryz
open Classical Go.Proofs Go.Ab
end Go.Ab.Tryz
namespace Go.Ab.Tryz
open Classical Go.Proofs Go.Ab
theorem ZM (ns:List Node) (hn:(ns.length:Int)<1000000) (i:Int):(∃e,E6 ns i=.eB [.agg [.v (.slice none 0 0)],.v (.int .i64 e)])∨∃r:List Node,E6 ns i=.eB [.agg (cP ⟨r⟩),.v (.int .i64 0)]∧(r.length:Int)<1000000:=by
 unfold E6;split
 ·cases h:raO ns i with
  | none=>exact .inl ⟨21,rfl⟩
  | some r=>exact .inr ⟨r,rfl,by rw[EO _ _ _ h];exact hn⟩
 ·exact .inl ⟨10,rfl⟩
theorem CQ (ns:List Node) (hn:(ns.length:Int)<1000000) (i:Int):(∃e,E7 ns i=.eB [.agg [.v (.slice none 0 0)],.v (.int .i64 e)])∨∃r:List Node,E7 ns i=.eB [.agg (cP ⟨r⟩),.v (.int .i64 0)]∧(r.length:Int)<1000000:=by
 unfold E7;split
 ·cases h:coO ns i with
  | none=>exact .inl ⟨21,rfl⟩
  | some r=>exact .inr ⟨r,rfl,by rw[EO _ _ _ h];exact hn⟩
 ·exact .inl ⟨10,rfl⟩
def pay (ns:List Node) (x:Int):cC:=(nd ns x).block.iI
noncomputable def yC (ns:List Node) (p:List Int):Nat→Option Nat
 | 0=>none
 | n+1=>if pay ns (it p ((p.length-(n+1):Nat):Int))=dI then yC ns p n else some (p.length-(n+1))
noncomputable def Gg (ns:List Node) (p:List Int) (h:cC):Nat→Option Nat
 | 0=>none
 | n+1=>if pay ns (it p (n:Int))=h then some n else Gg ns p h n
noncomputable def oK (ns:List Node) (i:Int) (h:cC):Int × Int :=
 if path ns i=[] then (-1,-1)
 else if h=dI then
  match yC ns (path ns i) (path ns i).length with
  | none=>(-1,i)
  | some k=>(if k=0 then -1 else it (path ns i) ((k:Int)-1),it (path ns i) k)
 else
  match Gg ns (path ns i) h ((path ns i).length-1) with
  | none=>(-1,i)
  | some k=>(it (path ns i) k,it (path ns i) ((k:Int)+1))
noncomputable def reA (ns:List Node) (i:Int) (h:cC):AV:=.eB [.v (.int .i64 (oK ns i h).1),.v (.int .i64 (oK ns i h).2)]
theorem CR {ns:List Node} {p:List Int}:∀(n k:Nat),n≤p.length→yC ns p n=some k→k<p.length
 | 0,k,_,h=>by simp[yC] at h
 | n+1,k,hn,h=>by
   simp only[yC] at h;split at h
   ·exact CR n k (by omega) h
   ·simp at h;omega
theorem KI {ns:List Node} {p:List Int} {h:cC}:∀(n k:Nat),Gg ns p h n=some k→k<n
 | 0,k,hk=>by simp[Gg] at hk
 | n+1,k,hk=>by
   simp only[Gg] at hk;split at hk
   ·simp at hk;omega
   ·have:=KI n k hk;omega
theorem RM {ns:List Node} {i:Int} {h:cC} (hp:path ns i=[]):oK ns i h=(-1,-1):=if_pos hp
theorem aEE {ns:List Node} {i j:Int} (i0:0≤i) (i1:i<ns.length) (j0:0≤j) (y:Node):nd (ns.set i.toNat y) j=if j=i then y else nd ns j:=by
 unfold nd;rw[List.getD_eq_getElem?_getD,List.getD_eq_getElem?_getD];by_cases h:j=i
 ·subst h;have:j.toNat<ns.length:=by omega
  simp[this]
 ·rw[if_neg h,List.getElem?_set_ne (by omega)]
theorem KJ {to never:Int} (gN:to≠never):∀(l:List Int) (ns r:List Node),(∀x∈l,0≤x∧x<ns.length)→CP to never l ns=some r →
 (∀x∈l,(nd ns x).status≠never)∧r.length=ns.length∧∀j:Int,0≤j→j<ns.length→nd r j=if j∈l then Vn (nd ns j) to else nd ns j
 | [],ns,r,_,h=>by
   simp only[CP,Option.some.injEq] at h;subst h;exact⟨by simp,rfl,by simp⟩
 | i :: l,ns,r,hl,h=>by
   simp only[CP] at h;split at h
   ·cases h
   ·rename_i hs;obtain⟨i0,i1⟩:=hl i (by simp)
    obtain⟨h1,h2,h3⟩:=KJ gN l (setAt ns i to) r (fun x hx=>by rw[Bz];exact hl x (by simp[hx])) h
    rw[Bz] at h2 h3;have hnd:∀j:Int,0≤j→nd (setAt ns i to) j=if j=i then Vn (nd ns i) to else nd ns j:=fun j j0=>aEE i0 i1 j0 _
    refine⟨fun x hx=>?_,h2,fun j j0 j1=>?_⟩
    ·rcases List.mem_cons.1 hx with rfl|hx
     ·exact hs
     ·by_cases hxi:x=i
      ·subst hxi;exact hs
      ·have:=h1 x hx
       rw[hnd x (hl x (by simp[hx])).1,if_neg hxi] at this
       exact this
    ·rw[h3 j j0 j1,hnd j j0];by_cases hji:j=i
     ·subst hji;simp only[if_true,List.mem_cons,true_or];split<;>rfl
     ·simp[hji]
structure RN (a b:List Node):Prop where
 len:a.length=b.length
 up:∀j:Int,0≤j→j<a.length→(nd a j).up=(nd b j).up
theorem RN.aNy {a b:List Node} (h:RN a b) (hu:gU a):gU b:=fun i i0 i1=>by rw[← h.up i (by omega) (by rw[h.len];exact i1)];exact hu i i0 (by rw[h.len];exact i1)
structure Chd (ns r:List Node) (l:List Int) (to:Int):Prop where
 len:r.length=ns.length
 at_:∀j:Int,0≤j→j<ns.length→nd r j=if j∈l then Vn (nd ns j) to else nd ns j
theorem Chd.su {ns r:List Node} {l:List Int} {to:Int} (h:Chd ns r l to):RN ns r where
 len:=h.len.symm
 up:=fun j j0 j1=>by rw[h.at_ j j0 j1];split<;>rfl
theorem Chd.block {ns r:List Node} {l:List Int} {to:Int} (h:Chd ns r l to) {j:Int} (j0:0≤j) (j1:j<ns.length):(nd r j).block=(nd ns j).block:=by
 rw[h.at_ j j0 j1];split<;>rfl
theorem Chd.upE {ns r:List Node} {l:List Int} {to:Int} (h:Chd ns r l to) {j:Int} (j0:0≤j) (j1:j<ns.length):(nd r j).up=(nd ns j).up:=by
 rw[h.at_ j j0 j1];split<;>rfl
theorem Chd.st {ns r:List Node} {l:List Int} {to:Int} (h:Chd ns r l to) {j:Int} (j0:0≤j) (j1:j<ns.length):(nd r j).status=if j∈l then to else (nd ns j).status:=by
 rw[h.at_ j j0 j1];split<;>rfl
structure aEF (ns r:List Node) (i:Int):Prop where
 c:Chd ns r (path ns i) 1
 ok:∀x∈path ns i,(nd ns x).status≠2
theorem ZN {ns r:List Node} (hu:gU ns) {i:Int} (h:raO ns i=some r):aEF ns r i:=by
 obtain⟨h1,h2,h3⟩:=KJ (by decide) _ _ _ (Ud hu) h
 exact⟨⟨h2,h3⟩,h1⟩
structure aHz (ns r:List Node) (i:Int):Prop where
 c:Chd ns r (Fj ns i ns.length) 2
 ok:∀x∈Fj ns i ns.length,(nd ns x).status≠1
theorem CS {ns:List Node} (hu:gU ns):∀(n:Nat) (c:Int),c.toNat=n→0≤c→c<ns.length→∀k:Int,1≤k→k<(path ns c).length→(nd ns (it (path ns c) k)).up=it (path ns c) (k-1):=by
 intro n;induction n using Nat.strongRecOn with
 | _ n ih =>
   intro c hc c0 c1 k k0 k1;by_cases h:c=0
   ·subst h;rw[qT (by omega)] at k1
    simp at k1
    omega
   ·obtain⟨u0,u1⟩:=hu c (by omega) c1
    rw[qU hu (by omega) c1] at k1 ⊢
    simp at k1
    by_cases hk:k=(path ns (nd ns c).up).length
    ·rw[By hk,lN (by omega) (by omega),hk,ZK hu u0 (by omega)]
    ·rw[lN (by omega) (by omega),lN (by omega) (by omega)]
     exact ih (nd ns c).up.toNat (by omega) _ rfl u0 (by omega) k k0 (by omega)
theorem H4 {ns:List Node} (hu:gU ns):∀(n:Nat) (c:Int),c.toNat=n→0≤c→c<ns.length→it (path ns c) 0=0:=by
 intro n;induction n using Nat.strongRecOn with
 | _ n ih =>
   intro c hc c0 c1;by_cases h:c=0
   ·subst h;rw[qT (by omega)];rfl
   ·obtain⟨u0,u1⟩:=hu c (by omega) c1
    have:=EP hu u0 (by omega)
    rw[qU hu (by omega) c1,lN (Int.le_refl _) (by omega)]
    exact ih _ (by omega) _ rfl u0 (by omega)
theorem aNA (ns:List Node) (hu:gU ns) (hr:(nd ns 0).up=-1) (hn:(ns.length:Int)<1000000) (i:Int) (h:cC):aD Tryz.prog 237 [.agg (cP ⟨ns⟩),.v (.int .i64 i),.agg (aV h)]=some (reA ns i h):=by
 rw[cL Tryz.func237 rfl aIJ rfl];unfold reA;by_cases hm:0≤i∧i<ns.length
 ·have h45:=k76 ns hu hn i hm.1 hm.2
  have hpl:=zX hu i
  have hp0:=EP hu hm.1 hm.2
  have hin:=Ud hu (i:=i)
  have hpe:path ns i≠[]:=by intro h;rw[h] at hp0;simp at hp0
  have hq:(((path ns i).length:Int) == 0)=false:=by simp[hpe]
  have Vh:=fun k h h'=>CS hu _ i rfl hm.1 hm.2 k h h'
  have hi0:=H4 hu _ i rfl hm.1 hm.2
  unfold oK;rw[if_neg hpe];generalize path ns i=p at h45 hpl hp0 hin hq Vh hi0
  by_cases hz:h=dI
  ·have hd:decide (h=dI)=true:=decide_eq_true hz
   rw[if_pos hz];simp only[ZZ,seval,h45,hq,hd];refine lB (fun n st=>∃k:Nat,(st.env 1=.v (.int .i64 i)∧st.env 3=.ptr 3 0 0∧st.heap 3 0=some (.cells (cP ⟨ns⟩))∧st.env 8=.own 13 0∧st.heap 13 0=some (.row 3 1 p.length (aJ p))∧st.env 9=.v (.int .i64 k))∧yC ns p p.length=yC ns p (p.length-k)∧k≤p.length∧n=p.length-k)
    (fun e st=>(e=.ret∧∃k,yC ns p p.length=some k∧st.env 6=.v (.int .i64 (if k=0 then -1 else it p ((k:Int)-1)))∧st.env 7=.v (.int .i64 (it p k)))∨(e=.exit 0∧yC ns p p.length=none∧st.env 1=.v (.int .i64 i))) p.length ?step ?start ?rest
   case step =>
    rintro n st ⟨k,hI,hf,hk,Hz⟩
    by_cases bA:(k:Int)<p.length
    ·have q0:(0:Int)≤k:=by omega
     have hw:IntKind.i64.wrap ((k:Int)+1)=((k+1:Nat):Int):=by rw[Gc _ (by omega) (by omega)];omega
     obtain⟨x0,x1⟩:=hin _ (Dp q0 bA)
     obtain⟨m,hm'⟩:∃m,p.length-k=m+1:=⟨p.length-k-1,by omega⟩
     rw[hm'] at hf;simp only[yC] at hf;rw[show p.length-(m+1)=k by omega] at hf
     by_cases hpz:pay ns (it p k)=dI
     ·rw[if_pos hpz] at hf;have hd2:decide ((nd ns (it p k)).block.iI=dI)=true:=decide_eq_true hpz
      apply oN (p.length-(k+1))
      ·simp only[ZZ,seval,hI,bA,q0,x0,x1,hd2,hw];rfl
      ·exact⟨k+1,by simp only[EV,seval,hI],by rw[hf,show p.length-(k+1)=m by omega],by omega,rfl⟩
     ·rw[if_neg hpz] at hf;have hd2:decide ((nd ns (it p k)).block.iI=dI)=false:=decide_eq_false hpz
      have hupk:(nd ns (it p k)).up=if k=0 then -1 else it p ((k:Int)-1):=by
       by_cases vM:k=0
       ·rw[if_pos vM,show ((k:Int))=0 by omega,hi0,hr]
       ·rw[if_neg vM,Vh k (by omega) bA]
      apply oT (.ret)
      ·simp only[ZZ,seval,hI,bA,q0,x0,x1,hd2];rfl
      ·exact .inl ⟨rfl,k,hf,by rw[← hupk];simp only[EV,seval],by simp only[EV,seval]⟩
    ·obtain rfl:k=p.length:=by omega
     rw[Nat.sub_self] at hf;apply oT (.exit 0)
     ·simp only[ZZ,seval,hI,bA];rfl
     ·exact .inr ⟨rfl,hf,by simp only[EV,seval,hI]⟩
   case start=>exact⟨0,by simp only[EV,seval]<;>rfl,rfl,by omega,rfl⟩
   case rest =>
    rintro e st (⟨rfl,k,hf,h6,h7⟩|⟨rfl,hf,h1⟩)
    ·rw[hf];simp only[ZZ,seval];exact dM rfl (by simp only[bS,EV,seval,h6]<;>rfl) (by simp only[bS,EV,seval,h7]<;>rfl) (by simp only[EV,seval]<;>rfl) (by simp only[EV,seval]<;>rfl)
    ·rw[hf];simp only[ZZ,seval,h1];exact dM rfl (by simp only[bS,EV,seval]<;>rfl) (by simp only[bS,EV,seval]<;>rfl) (by simp only[EV,seval]<;>rfl) (by simp only[EV,seval]<;>rfl)
  ·have hd:decide (h=dI)=false:=decide_eq_false hz
   have hw0:IntKind.i64.wrap ((p.length:Int)-2)=(p.length:Int)-2:=Gc _ (by omega) (by omega)
   rw[if_neg hz];simp only[ZZ,seval,h45,hq,hd,hw0];refine lB (fun n st=>∃m:Nat,(st.env 1=.v (.int .i64 i)∧st.env 3=.ptr 3 0 0∧st.heap 3 0=some (.cells (cP ⟨ns⟩))∧st.env 5=.ptr 5 0 0∧st.heap 5 0=some (.cells (aV h))∧st.env 8=.own 13 0∧st.heap 13 0=some (.row 3 1 p.length (aJ p))∧st.env 10=.v (.int .i64 ((m:Int)-1)))∧Gg ns p h (p.length-1)=Gg ns p h m∧m≤p.length-1∧n=m)
    (fun e st=>(e=.ret∧∃k,Gg ns p h (p.length-1)=some k∧st.env 6=.v (.int .i64 (it p k))∧st.env 7=.v (.int .i64 (it p ((k:Int)+1))))∨(e=.exit 2∧Gg ns p h (p.length-1)=none∧st.env 1=.v (.int .i64 i))) (p.length-1) ?step ?start ?rest
   case step =>
    rintro n st ⟨m,hI,hf,hm',Hz⟩
    by_cases bA:(0:Int)≤(m:Int)-1
    ·obtain⟨k,rfl⟩:∃k,m=k+1:=⟨m-1,by omega⟩
     have e1:((k+1:Nat):Int)-1=k:=by omega
     rw[e1] at hI bA;have k1:(k:Int)<p.length:=by omega
     have hw:IntKind.i64.wrap ((k:Int)-1)=(k:Int)-1:=Gc _ (by omega) (by omega)
     obtain⟨x0,x1⟩:=hin _ (Dp bA k1)
     simp only[Gg] at hf;by_cases hpz:pay ns (it p k)=h
     ·rw[if_pos hpz] at hf;have hd2:decide ((nd ns (it p k)).block.iI=h)=true:=decide_eq_true hpz
      have WV:IntKind.i64.wrap ((k:Int)+1)=(k:Int)+1:=Gc _ (by omega) (by omega)
      have r0:(0:Int)≤(k:Int)+1:=by omega
      have r1:(k:Int)+1<p.length:=by omega
      apply oT (.ret)
      ·simp only[ZZ,seval,hI,bA,k1,x0,x1,hd2,WV,r0,r1];rfl
      ·exact .inl ⟨rfl,k,hf,by simp only[EV,seval],by simp only[EV,seval]⟩
     ·rw[if_neg hpz] at hf;have hd2:decide ((nd ns (it p k)).block.iI=h)=false:=decide_eq_false hpz
      apply oN (k)
      ·simp only[ZZ,seval,hI,bA,k1,x0,x1,hd2,hw];rfl
      ·exact⟨k,by simp only[EV,seval,hI],hf,by omega,rfl⟩
    ·obtain rfl:m=0:=by omega
     apply oT (.exit 2)
     ·simp only[ZZ,seval,hI,bA];rfl
     ·exact .inr ⟨rfl,hf,by simp only[EV,seval,hI]⟩
   case start =>
    have hs:(p.length:Int)-2=((p.length-1:Nat):Int)-1:=by omega
    exact⟨p.length-1,by simp only[EV,seval,hs],rfl,by omega,rfl⟩
   case rest =>
    rintro e st (⟨rfl,k,hf,h6,h7⟩|⟨rfl,hf,h1⟩)
    ·rw[hf];simp only[ZZ,seval];exact dM rfl (by simp only[bS,EV,seval,h6]<;>rfl) (by simp only[bS,EV,seval,h7]<;>rfl) (by simp only[EV,seval]<;>rfl) (by simp only[EV,seval]<;>rfl)
    ·rw[hf];simp only[ZZ,seval,h1];exact dM rfl (by simp only[bS,EV,seval]<;>rfl) (by simp only[bS,EV,seval]<;>rfl) (by simp only[EV,seval]<;>rfl) (by simp only[EV,seval]<;>rfl)
 ·rw[RM (xN hm)];have h45:=YT ns i hm
  simp only[ZZ,seval,h45];exact dM rfl (by simp only[bS,EV,seval]<;>rfl) (by simp only[bS,EV,seval]<;>rfl) (by simp only[EV,seval]<;>rfl) (by simp only[EV,seval]<;>rfl)
theorem H5 (ns:List Node) (i:Int) (h:cC):Flat (reA ns i h):=.eB _ (bI (.v _) (.v _))
theorem aNC (ns:List Node) (hu:gU ns) (hr:(nd ns 0).up=-1) (hn:(ns.length:Int)<1000000) (i:Int) (h:cC) (st:St) (d:Option Nat):aP (aD Tryz.prog) 237 [.agg (cP ⟨ns⟩),.v (.int .i64 i),.agg (aV h)] st d=some { dst:=d,val:=.eB [.v (.int .i64 (oK ns i h).1),.v (.int .i64 (oK ns i h).2)]}:=bT (mC (nG _) (.v _) (pZ _)) (aNA ns hu hr hn i h) (H5 ns i h)
theorem RO {ns:List Node} (hu:gU ns) (hr:(nd ns 0).up=-1) {i:Int} (i0:0≤i) (i1:i<ns.length) (h:cC):(oK ns i h).2∈path ns i∧((oK ns i h).1<0∨((oK ns i h).1∈path ns i∧(nd ns (oK ns i h).2).up=(oK ns i h).1)):=by
 have hp0:=EP hu i0 i1
 have hpe:path ns i≠[]:=by intro h;rw[h] at hp0;simp at hp0
 have CT:=xM hu i0 i1
 have Vh:=fun k h h'=>CS hu _ i rfl i0 i1 k h h'
 unfold oK;rw[if_neg hpe];by_cases hz:h=dI
 ·rw[if_pos hz];cases hf:yC ns (path ns i) (path ns i).length with
  | none=>exact⟨CT,.inl (by simp)⟩
  | some k =>
    have hk:=CR _ _ (Nat.le_refl _) hf
    simp only
    refine⟨Dp (by omega) (by omega), ?_⟩
    by_cases vM:k=0
    ·rw[if_pos vM];exact .inl (by omega)
    ·rw[if_neg vM];exact .inr ⟨Dp (by omega) (by omega),Vh k (by omega) (by omega)⟩
 ·rw[if_neg hz];cases hf:Gg ns (path ns i) h ((path ns i).length-1) with
  | none=>exact⟨CT,.inl (by simp)⟩
  | some k =>
    have hk:=KI _ _ hf
    simp only
    refine⟨Dp (by omega) (by omega),.inr ⟨Dp (by omega) (by omega), ?_⟩⟩
    have:=Vh ((k:Int)+1) (by omega) (by omega)
    rw[this];congr 1
    omega
def Vp (kv:AV) (l:List Int):Prop:=kv=.sl l.length (aJ l)∨(l=[]∧kv=.v (.slice none 0 0))
theorem Vp.view {kv:AV} {l:List Int} (h:Vp kv l) (st:St):aQ st kv=some (l.length,aJ l):=by
 rcases h with rfl|⟨rfl,rfl⟩<;>rfl
theorem Vp.idx {kv:AV} {l:List Int} (h:Vp kv l) (st:St) {k:IntKind} {i:Int} (h0:0≤i) (h1:i<l.length):bB Tryz.prog st 22 kv (.v (.int k i))=some (.ip (pK (it l i)) 0):=by
 rcases h with rfl|⟨rfl,rfl⟩
 ·exact aDB st h0 h1
 ·simp at h1;omega
theorem Vp.flat {kv:AV} {l:List Int} (h:Vp kv l):Flat kv:=by
 rcases h with rfl|⟨rfl,rfl⟩
 ·exact Po l
 ·exact .v _
def WW (ns:List Node) (c:Int) (l:List Int):Prop:=∃k∈l,zY ns c k=true
noncomputable def H6 (ns:List Node) (i:Int) (h:cC) (l:List Int):AV :=
 if WW ns (oK ns i h).2 l then AB 21
 else if 0≤(oK ns i h).1 then
  match raO ns (oK ns i h).1 with
  | none=>AB 21
  | some r=>E7 r (oK ns i h).2
 else E7 ns (oK ns i h).2
noncomputable def RP (ns:List Node) (i:Int) (v:eR) (l:List Int):AV :=
 if ¬(0≤i∧i<ns.length) then AB 10
 else if v.kind=1 then E6 ns i
 else if v.kind=2 then H6 ns i v.dR l
 else if v.kind=3∨v.kind=4 then .eB [.agg (cP ⟨ns⟩),.v (.int .i64 0)]
 else AB 2
theorem ZO (ns:List Node) (i:Int) (h:cC) (l:List Int):Flat (H6 ns i h l):=by
 unfold H6;split
 ·exact uO _
 ·split
  ·split
   ·exact uO _
   ·exact Vo _ _
  ·exact Vo _ _
theorem ZP (ns:List Node) (i:Int) (v:eR) (l:List Int):Flat (RP ns i v l):=by
 unfold RP;split
 ·exact uO _
 ·split
  ·exact KH _ _
  ·split
   ·exact ZO _ _ _ _
   ·split
    ·exact .eB _ (bI (nG _) (.v _))
    ·exact uO _
theorem aND (ns:List Node) (hu:gU ns) (hr:(nd ns 0).up=-1) (hn:(ns.length:Int)<1000000) (i:Int) (v:eR) (l:List Int) (hl:(l.length:Int)<1000000) {kv:AV} (hkv:Vp kv l) :
 aD Tryz.prog 222 [.agg (cP ⟨ns⟩),.v (.int .i64 i),.agg (bU v),kv]=some (RP ns i v l):=by
 rw[cL Tryz.func222 rfl aIK (by rcases hkv with rfl|⟨rfl,rfl⟩<;>rfl)]
 have h86:=QM ns i
 unfold RP;by_cases hm:0≤i∧i<ns.length
 ·obtain⟨i0,i1⟩:=hm
  have hd:(decide (0≤i) && decide (i<(ns.length:Int)))=true:=by simp[i0,i1]
  rw[hd] at h86;rw[if_neg (by simp[i0,i1])]
  by_cases h1:v.kind=1
  ·rw[if_pos h1];have b1:(v.kind == 1)=true:=by simp[h1]
   have h96:=aIH ns hu hn i
   rcases ZM ns hn i with ⟨e,he⟩|⟨q,he,_⟩
   all_goals
    rw[he] at h96;rw[he];simp only[ZZ,seval,h86,b1,h96,dT];exact dM rfl (by simp only[bS,ZZ,seval];rfl) (by simp only[bS,EV,seval]<;>rfl) (by simp only[EV,seval]<;>rfl) (by simp only[EV,seval]<;>rfl)
  ·rw[if_neg h1];have b1:(v.kind == 1)=false:=by simp[h1]
   by_cases h2:v.kind=2
   ·rw[if_pos h2];have b2:(v.kind == 2)=true:=by simp[h2]
    have b3:(v.kind == 3)=false:=by simp[h2]
    have b4:(v.kind == 4)=false:=by simp[h2]
    have hRe:=aNC ns hu hr hn i v.dR
    have hfact:=RO hu hr i0 i1 v.dR
    have hv:=hkv.view
    have hix:=fun st (k:IntKind) (i:Int) h0 h1=>hkv.idx st (k:=k) (i:=i) h0 h1
    have h46:=Mm ns hu hn
    unfold H6;obtain⟨a,ha⟩:∃a,(oK ns i v.dR).1=a:=⟨_,rfl⟩
    obtain⟨c,hc⟩:∃c,(oK ns i v.dR).2=c:=⟨_,rfl⟩
    rw[ha,hc] at hRe hfact;rw[ha,hc];simp only[ZZ,seval,h86,b1,b2,b3,b4,hRe,dT];refine lB (fun n st=>∃k:Nat,(st.env 3=kv∧st.env 4=.ptr 4 0 0∧st.heap 4 0=some (.cells (cP ⟨ns⟩))∧st.env 8=.ptr 8 0 0∧st.heap 8 0=some (.cells [.v (.slice none 0 0)])∧st.env 10=.v (.int .i64 a)∧st.env 11=.v (.int .i64 c)∧st.env 12=.v (.int .i64 k))∧(∀j:Int,0≤j→j<k→zY ns c (it l j)=false)∧k≤l.length∧n=l.length-k)
     (fun e st=>(e=.ret∧WW ns c l∧st.env 8=.ptr 8 0 0∧st.heap 8 0=some (.cells [.v (.slice none 0 0)])∧st.env 9=.v (.int .i64 21))∨(e=.exit 1∧¬WW ns c l∧st.env 4=.ptr 4 0 0∧st.heap 4 0=some (.cells (cP ⟨ns⟩))∧st.env 8=.ptr 8 0 0∧st.heap 8 0=some (.cells [.v (.slice none 0 0)])∧st.env 10=.v (.int .i64 a)∧st.env 11=.v (.int .i64 c))) l.length ?step ?start ?rest
    case step =>
     rintro n st ⟨k,hI,hj,hk,Hz⟩
     by_cases bA:(k:Int)<l.length
     ·have q0:(0:Int)≤k:=by omega
      have hw:IntKind.i64.wrap ((k:Int)+1)=((k+1:Nat):Int):=by rw[Gc _ (by omega) (by omega)];omega
      cases hA:zY ns c (it l k)
      ·apply oN (l.length-(k+1))
       ·simp only[ZZ,seval,hI,bA,q0,hv,hix,h46,hA,hw];rfl
       ·exact⟨k+1,by simp only[EV,seval,hI],fun j j0 j1=>by
        by_cases hjk:j<k
        ·exact hj j j0 hjk
        ·rw[show j=(k:Int) by omega];exact hA,by omega,rfl⟩
      ·apply oT (.ret)
       ·simp only[ZZ,seval,hI,bA,q0,hv,hix,h46,hA];rfl
       ·exact .inl ⟨rfl,⟨_,Dp q0 bA,hA⟩,by simp only[EV,seval,hI],by simp only[EV,seval,hI],by simp only[EV,seval,hI]⟩
     ·obtain rfl:k=l.length:=by omega
      have hno:¬WW ns c l:=by
       rintro⟨x,hx,hxa⟩
       obtain⟨j,E9,rfl⟩:=List.getElem_of_mem hx
       have:=hj j (by omega) (by omega)
       rw[show it l (j:Int)=l[j] by simp[it,E9]] at this
       rw[this] at hxa;cases hxa
      apply oT (.exit 1)
      ·simp only[ZZ,seval,hI,hv,bA];rfl
      ·exact .inr ⟨rfl,hno,by simp only[EV,seval,hI]⟩
    case start=>exact⟨0,by simp only[EV,seval],fun j _ _=>by omega,by omega,by omega⟩
    case rest =>
     rintro e st (⟨rfl,hk,hI⟩|⟨rfl,hk,hI⟩)
     ·rw[if_pos hk];simp only[ZZ,seval];exact dM rfl (by simp only[bS,ZZ,seval,hI];rfl) (by simp only[bS,EV,seval,hI]<;>rfl) (by simp only[EV,seval]<;>rfl) (by simp only[EV,seval]<;>rfl)
     ·rw[if_neg hk];by_cases h0:0≤a
      ·rw[if_pos h0];have mT:a∈path ns i:=by
        rcases hfact.2 with h|h
        ·omega
        ·exact h.1
       obtain⟨_,a1⟩:=Ud hu a mT
       have h96:=aIH ns hu hn a
       rw[show E6 ns a=stA (raO ns a) from if_pos ⟨h0,a1⟩] at h96;cases ho:raO ns a with
       | none =>
         rw[ho] at h96;simp only[stA,AB] at h96;simp only[ZZ,seval,hI,h0,h96,dT];exact dM rfl (by simp only[bS,ZZ,seval,hI];rfl) (by simp only[bS,EV,seval,hI]<;>rfl) (by simp only[EV,seval]<;>rfl) (by simp only[EV,seval]<;>rfl)
       | some r =>
         rw[ho] at h96;simp only[stA] at h96;have hR:=ZN hu ho
         have hu2:=hR.c.su.aNy hu
         have h97:=aII r hu2 (by rw[hR.c.len];exact hn) c
         rcases CQ r (by rw[hR.c.len];exact hn) c with ⟨e,he⟩|⟨q,he,_⟩
         all_goals
          rw[he] at h97;simp only[he];simp only[ZZ,seval,hI,h0,h96,h97,dT];exact dM rfl (by simp only[bS,ZZ,seval,hI];rfl) (by simp only[bS,EV,seval,hI]<;>rfl) (by simp only[EV,seval]<;>rfl) (by simp only[EV,seval]<;>rfl)
      ·rw[if_neg h0];have h97:=aII ns hu hn c
       rcases CQ ns hn c with ⟨e,he⟩|⟨q,he,_⟩
       all_goals
        rw[he] at h97;rw[he];simp only[ZZ,seval,hI,h0,h97,dT];exact dM rfl (by simp only[bS,ZZ,seval,hI];rfl) (by simp only[bS,EV,seval,hI]<;>rfl) (by simp only[EV,seval]<;>rfl) (by simp only[EV,seval]<;>rfl)
   ·rw[if_neg h2];have b2:(v.kind == 2)=false:=by simp[h2]
    by_cases h3:v.kind=3
    ·rw[if_pos (.inl h3)];have b3:(v.kind == 3)=true:=by simp[h3]
     simp only[ZZ,seval,h86,b1,b2,b3];exact dM rfl (by simp only[bS,ZZ,seval];rfl) (by simp only[bS,EV,seval]<;>rfl) (by simp only[EV,seval]<;>rfl) (by simp only[EV,seval]<;>rfl)
    ·have b3:(v.kind == 3)=false:=by simp[h3]
     by_cases h4:v.kind=4
     ·rw[if_pos (.inr h4)];have b4:(v.kind == 4)=true:=by simp[h4]
      simp only[ZZ,seval,h86,b1,b2,b3,b4];exact dM rfl (by simp only[bS,ZZ,seval];rfl) (by simp only[bS,EV,seval]<;>rfl) (by simp only[EV,seval]<;>rfl) (by simp only[EV,seval]<;>rfl)
     ·rw[if_neg (by omega)]
      have b4:(v.kind == 4)=false:=by simp[h4]
      simp only[ZZ,seval,h86,b1,b2,b3,b4];exact dM rfl (by simp only[bS,ZZ,seval];rfl) (by simp only[bS,EV,seval]<;>rfl) (by simp only[EV,seval]<;>rfl) (by simp only[EV,seval]<;>rfl)
 ·rw[if_pos hm];have hd:(decide (0≤i) && decide (i<(ns.length:Int)))=false:=by
   by_cases h0:0≤i
   ·have:¬i<ns.length:=fun h=>hm ⟨h0,h⟩
    simp[this]
   ·simp[h0]
  rw[hd] at h86;simp only[ZZ,seval,h86];exact dM rfl (by simp only[bS,ZZ,seval];rfl) (by simp only[bS,EV,seval]<;>rfl) (by simp only[EV,seval]<;>rfl) (by simp only[EV,seval]<;>rfl)
end Go.Ab.Tryz
