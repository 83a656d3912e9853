/-
  Part 10 of the proof: an evaluator of programs, its soundness, and what functions of this program compute.
-/
import Derived.Test.YtmcjkemalibacaaGreatK9
import Derived.Test.YtmcjkemalibacaaGreatK7
set_option linter.all false
set_option maxRecDepth 20000
set_option maxHeartbeats 40000000
namespace Go.Ab.Tryz
open Classical Go.Proofs Go.Ab
theorem aAY:Flat (.agg [.v (.slice none 0 0)]):=.agg _ (by simp;exact .v _)
theorem Ia (x m:Int) (hm:0≤m∧m<9223372036854775808):0≤IntKind.i64.wrap ↑(BitVec.ofInt IntKind.i64.bits x &&& BitVec.ofInt IntKind.i64.bits m).toNat∧IntKind.i64.wrap ↑(BitVec.ofInt IntKind.i64.bits x &&& BitVec.ofInt IntKind.i64.bits m).toNat≤m:=by
 have h0:(BitVec.ofInt IntKind.i64.bits x &&& BitVec.ofInt IntKind.i64.bits m).toNat≤(BitVec.ofInt IntKind.i64.bits m).toNat:=by rw[BitVec.toNat_and];exact Nat.and_le_right
 have hb:IntKind.i64.bits=64:=rfl
 have h:(BitVec.ofInt IntKind.i64.bits (m:Int)).toNat=m.toNat:=by
  rw[BitVec.toNat_ofInt,hb];omega
 rw[h] at h0;rw[Ix _ (by omega) (by omega)]
 omega
theorem RE {i n:Int} (h:0≤i) (hn:0<n):0≤i.tdiv n∧i.tdiv n≤i:=by
 rw[Int.tdiv_eq_ediv_of_nonneg h];exact⟨Int.ediv_nonneg h (by omega),Int.ediv_le_self n h⟩
theorem eJ {i n:Int} (h:0≤i) (hn:0<n):0≤i.tmod n∧i.tmod n<n:=by
 rw[Int.tmod_eq_emod_of_nonneg h];exact⟨Int.emod_nonneg i (by omega),Int.emod_lt_of_pos i hn⟩
theorem Af {i:Int} (h:0≤i) (s:Nat):0≤i.fdiv (2 ^ s):=by
 have h2:(0:Int)≤2 ^ s:=Int.pow_nonneg (by decide)
 rw[Int.fdiv_eq_ediv_of_nonneg _ h2];exact Int.ediv_nonneg h h2
theorem aIr (l:List Int) (hl:(l.length:Int)≤9223372036854775807) (i:Int) (i0:0≤i) (i1:i<1000000):∃k:Int,aC Tryz.prog 145 [.sl l.length (aK l),.v (.int .i64 i)]=some (.v (.int .i64 k))∧0≤k∧k≤17777215:=by
 rw[cL Tryz.func145 rfl aIs rfl];by_cases h:(l.length:Int)=0
 ·have hq:((l.length:Int) == 0)=true:=by simp[h]
  simp only[ZZ,seval,hq];obtain⟨b1,b2⟩:=Ia i 65535 (by decide)
  exact⟨_,bT rfl (by simp only[EV,seval]<;>rfl) (.v _),b1,by omega⟩
 ·have hq:((l.length:Int) == 0)=false:=by rw[beq_eq_false_iff_ne];exact h
  obtain⟨m1,m2⟩:=eJ (n:=(l.length:Int)) i0 (by omega)
  obtain⟨d1,d2⟩:=RE (n:=(l.length:Int)) i0 (by omega)
  simp only[ZZ,seval,hq,h,m1,m2];obtain⟨b1,b2⟩:=Ia (it l (i.tmod ↑l.length)) 16777215 (by decide)
  refine⟨_,bT rfl (by simp only[EV,seval]<;>rfl) (.v _), ?_, ?_⟩
  all_goals
   rw[Ix (i.tdiv ↑l.length) (by omega) (by omega),Ix _ (by omega) (by omega)]
   omega
noncomputable def EJ (l:List Int) (i:Int):Int:=if h:((l.length:Int)≤9223372036854775807∧0≤i∧i<1000000) then Classical.choose (aIr l h.1 i h.2.1 h.2.2) else 0
theorem Ml (l:List Int) (hl:(l.length:Int)≤9223372036854775807) (i:Int) (i0:0≤i) (i1:i<1000000):aC Tryz.prog 145 [.sl l.length (aK l),.v (.int .i64 i)]=some (.v (.int .i64 (EJ l i)))∧0≤EJ l i∧EJ l i≤17777215:=by
 have h:((l.length:Int)≤9223372036854775807∧0≤i∧i<1000000):=⟨hl,i0,i1⟩
 unfold EJ;rw[dif_pos h];exact Classical.choose_spec (aIr l h.1 i h.2.1 h.2.2)
theorem Mm (l:List Int) (hl:(l.length:Int)≤9223372036854775807) (i:Int) (i0:0≤i) (i1:i<1000000) (st:St) (d:Option Nat):aN (aC Tryz.prog) 145 [.sl l.length (aK l),.v (.int .i64 i)] st d=some { dst:=d,val:=.v (.int .i64 (EJ l i))}:=bI (bE (Pn l) (.v _)) (Ml l hl i i0 i1).1 (.v _)
def mkRoot (n:Int):cM:=((dK.set 0 (IntKind.u8.wrap n)).set 1 (IntKind.u8.wrap (n.fdiv (2 ^ min 8 IntKind.i64.bits)))).set 31 (IntKind.u8.wrap (IntKind.i64.wrap (n * 7)))
theorem c30 (n:Int):aC Tryz.prog 30 [.v (.int .i64 n)]=some (.agg (aZ (mkRoot n))):=by
 rw[cL Tryz.func30 rfl aNj rfl];simp only[ZZ,seval,Va,Nat.reduceLT];exact fF rfl (by simp only[EV,seval];rfl) (by simp only[ZZ,seval];rfl) (.agg _ (dP _))
theorem Po (n:Int) (st:St) (d:Option Nat):aN (aC Tryz.prog) 30 [.v (.int .i64 n)] st d=some { dst:=d,val:=.agg (aZ (mkRoot n))}:=bI (cO (.v _)) (c30 n) (rH _)
theorem aNk (b:Block) (s:Int):aC Tryz.prog 157 [.agg (aU b),.v (.int .i64 s)]=some (.agg (cP ⟨[⟨b,-1,s⟩]⟩)):=by
 rw[cL Tryz.func157 rfl aIt rfl];simp only[ZZ,seval];exact eK rfl (by simp only[EV,seval];rfl) (by simp only[ZZ,seval];rfl) (by simp only[EV,seval,Option.map_some]<;>rfl)
theorem aNl (b:Block) (s:Int) (st:St) (d:Option Nat):aN (aC Tryz.prog) 157 [.agg (aU b),.v (.int .i64 s)] st d=some { dst:=d,val:=.agg (cP ⟨[⟨b,-1,s⟩]⟩)}:=bI (bE (uI _) (.v _)) (aNk b s) (nJ _)
theorem YR (i:Int) (st:St) (d:Option Nat):aN (aC Tryz.prog) 186 [.v (.int .i64 i)] st d=some { dst:=d,val:=.v (.bool (RF i))}:=bI (cO (.v _)) (aNm i) (.v _)
theorem jA (ns:List Node) (r:cM) (hn:(ns.length:Int)<1000000) (st:St) (d:Option Nat):aN (aC Tryz.prog) 46 [.agg (cP ⟨ns⟩),.agg (aZ r)] st d=some { dst:=d,val:=.v (.int .i64 (aM ns r))}:=bI (bE (nJ _) (rH _)) (c46 ns r hn) (.v _)
noncomputable def Sz (ns:List Node) (b:Block) (s:Int):Int :=
 if RF s=false then 2 else if 0≤aM ns b.root then 9 else if aM ns b.parent<0 then 10 else if b.slot≤(nd ns (aM ns b.parent)).block.slot then 14 else if 4096≤(ns.length:Int) then 11 else 0
noncomputable def Dq (ns:List Node) (b:Block) (s:Int):AV :=
 if Sz ns b s=0 then .eE [.agg (cP ⟨ns++[⟨b,aM ns b.parent,s⟩]⟩),.v (.int .i64 0)] else .eE [.agg [.v (.slice none 0 0)],.v (.int .i64 (Sz ns b s))]
theorem dW (ns:List Node) (r:cM):-1≤aM ns r∧aM ns r<ns.length:=by
 unfold aM;cases h:ns.findIdx? (fun n=>decide (n.block.root=r)) with
 | none=>simp only;omega
 | some k =>
   have:=(List.findIdx?_eq_some_iff_getElem.1 h).1
   simp only;omega
theorem aNn (ns:List Node) (hn:(ns.length:Int)<1000000) (b:Block) (s:Int):aC Tryz.prog 149 [.agg (cP ⟨ns⟩),.agg (aU b),.v (.int .i64 s)]=some (Dq ns b s):=by
 rw[cL Tryz.func149 rfl aIu rfl];have hu:=dW ns b.parent
 cases hs:RF s
 ·simp only[ZZ,seval,YR,hs];rw[show Dq ns b s=.eE [.agg [.v (.slice none 0 0)],.v (.int .i64 2)] from by simp[Dq,Sz,hs]]
  exact dO rfl (by simp only[bJ,ZZ,seval];rfl) (by simp only[bJ,EV,seval]<;>rfl) (by simp only[EV,seval]<;>rfl) (by simp only[EV,seval]<;>rfl)
 by_cases h1:0≤aM ns b.root
 ·simp only[ZZ,seval,YR,hs,jA,hn,h1];rw[show Dq ns b s=.eE [.agg [.v (.slice none 0 0)],.v (.int .i64 9)] from by simp[Dq,Sz,hs,h1]]
  exact dO rfl (by simp only[bJ,ZZ,seval];rfl) (by simp only[bJ,EV,seval]<;>rfl) (by simp only[EV,seval]<;>rfl) (by simp only[EV,seval]<;>rfl)
 by_cases h2:aM ns b.parent<0
 ·simp only[ZZ,seval,YR,hs,jA,hn,h1,h2];rw[show Dq ns b s=.eE [.agg [.v (.slice none 0 0)],.v (.int .i64 10)] from by simp[Dq,Sz,hs,h1,h2]]
  exact dO rfl (by simp only[bJ,ZZ,seval];rfl) (by simp only[bJ,EV,seval]<;>rfl) (by simp only[EV,seval]<;>rfl) (by simp only[EV,seval]<;>rfl)
 have u0:0≤aM ns b.parent:=by omega
 have u1:aM ns b.parent<ns.length:=hu.2
 by_cases h3:b.slot≤(nd ns (aM ns b.parent)).block.slot
 ·simp only[ZZ,seval,YR,hs,jA,hn,h1,h2,u0,u1,h3];rw[show Dq ns b s=.eE [.agg [.v (.slice none 0 0)],.v (.int .i64 14)] from by simp[Dq,Sz,hs,h1,h2,h3]]
  exact dO rfl (by simp only[bJ,ZZ,seval];rfl) (by simp only[bJ,EV,seval]<;>rfl) (by simp only[EV,seval]<;>rfl) (by simp only[EV,seval]<;>rfl)
 by_cases h4:4096≤(ns.length:Int)
 ·simp only[ZZ,seval,YR,hs,jA,hn,h1,h2,u0,u1,h3,h4];rw[show Dq ns b s=.eE [.agg [.v (.slice none 0 0)],.v (.int .i64 11)] from by simp[Dq,Sz,hs,h1,h2,h3,h4]]
  exact dO rfl (by simp only[bJ,ZZ,seval];rfl) (by simp only[bJ,EV,seval]<;>rfl) (by simp only[EV,seval]<;>rfl) (by simp only[EV,seval]<;>rfl)
 ·simp only[ZZ,seval,YR,hs,jA,hn,h1,h2,u0,u1,h3,h4];rw[show Dq ns b s=.eE [.agg (cP ⟨ns++[⟨b,aM ns b.parent,s⟩]⟩),.v (.int .i64 0)] from by simp[Dq,Sz,hs,h1,h2,h3,h4]]
  exact dO rfl (by simp only[bJ,ZZ,seval];rfl) (by simp only[bJ,EV,seval]<;>rfl) (by simp only[EV,seval]<;>rfl) (by simp only[EV,seval]<;>rfl)
theorem YS (ns:List Node) (b:Block) (s:Int):Flat (Dq ns b s):=by
 unfold Dq;split
 ·exact .eE _ (bE (nJ _) (.v _))
 ·exact .eE _ (bE aAY (.v _))
theorem aIv (ns:List Node) (hn:(ns.length:Int)<1000000) (b:Block) (s:Int) (st:St) (d:Option Nat):aN (aC Tryz.prog) 149 [.agg (cP ⟨ns⟩),.agg (aU b),.v (.int .i64 s)] st d=some { dst:=d,val:=Dq ns b s }:=bI (lN (nJ _) (uI _) (.v _)) (aNn ns hn b s) (YS ns b s)
theorem aNo (n:Int):aC Tryz.prog 188 [.v (.int .u64 n)]=some (.v (.bool (decide (1≤n) && decide (n≤64)))):=by
 rw[cL Tryz.func188 rfl aIw rfl];by_cases h:1≤n
 all_goals
  simp only[Z8,seval,h,decide_true,decide_false,Bool.true_and,Bool.false_and];exact bT rfl (by simp only[E8,seval,h,decide_true,decide_false,Bool.true_and,Bool.false_and]<;>rfl) (.v _)
theorem aIx (n:Int) (st:St) (d:Option Nat):aN (aC Tryz.prog) 188 [.v (.int .u64 n)] st d=some { dst:=d,val:=.v (.bool (decide (1≤n) && decide (n≤64)))}:=bI (cO (.v _)) (aNo n) (.v _)
noncomputable def YT (a b:Int):Int × Int:=if b≠0∧IntKind.u64.wrap (Int.tdiv 18446744073709551615 b)<a then (0,4) else (IntKind.u64.wrap (a * b),0)
theorem aNp (a b:Int):aC Tryz.prog 189 [.v (.int .u64 a),.v (.int .u64 b)]=some (.eE [.v (.int .u64 (YT a b).1),.v (.int .i64 (YT a b).2)]):=by
 rw[cL Tryz.func189 rfl aIy rfl];unfold YT;by_cases h:b=0
 ·rw[if_neg (fun k=>k.1 h)]
  have hb:(b != 0)=false:=by simp[h]
  simp only[Z8,seval,hb];exact dO rfl rfl rfl (by simp only[E8,seval]<;>rfl) (by simp only[E8,seval]<;>rfl)
 ·have hb:(b != 0)=true:=by simp[h]
  have WJ:(b=0)=False:=eq_false h
  by_cases h2:IntKind.u64.wrap (Int.tdiv 18446744073709551615 b)<a
  ·rw[if_pos ⟨h,h2⟩];simp only[Z8,seval,hb,WJ,h2];exact dO rfl rfl rfl (by simp only[E8,seval]<;>rfl) (by simp only[E8,seval]<;>rfl)
  ·rw[if_neg (fun k=>h2 k.2)]
   simp only[Z8,seval,hb,WJ,h2];exact dO rfl rfl rfl (by simp only[E8,seval]<;>rfl) (by simp only[E8,seval]<;>rfl)
theorem aNq (a b:Int) (st:St) (d:Option Nat):aN (aC Tryz.prog) 189 [.v (.int .u64 a),.v (.int .u64 b)] st d=some { dst:=d,val:=.eE [.v (.int .u64 (YT a b).1),.v (.int .i64 (YT a b).2)]}:=bI (bE (.v _) (.v _)) (aNp a b) (.eE _ (bE (.v _) (.v _)))
noncomputable def JV (e p:Int):Int × Int:=if 1≤p∧p≤64 then YT e p else (0,3)
theorem aNr (e p:Int):aC Tryz.prog 155 [.v (.int .u64 e),.v (.int .u64 p)]=some (.eE [.v (.int .u64 (JV e p).1),.v (.int .i64 (JV e p).2)]):=by
 rw[cL Tryz.func155 rfl aIz rfl];unfold JV;by_cases h:1≤p∧p≤64
 ·have h1:(decide (1≤p) && decide (p≤64))=true:=by simp[h]
  rw[if_pos h];simp only[Z8,seval,aIx,h1,aNq,eA];exact dO rfl rfl rfl (by simp only[E8,seval]<;>rfl) (by simp only[E8,seval]<;>rfl)
 ·have h1:(decide (1≤p) && decide (p≤64))=false:=by
   rw[Bool.eq_false_iff];intro k;simp at k;exact h k
  rw[if_neg h];simp only[Z8,seval,aIx,h1];exact dO rfl rfl rfl (by simp only[E8,seval]<;>rfl) (by simp only[E8,seval]<;>rfl)
theorem aNs (e p:Int) (st:St) (d:Option Nat):aN (aC Tryz.prog) 155 [.v (.int .u64 e),.v (.int .u64 p)] st d=some { dst:=d,val:=.eE [.v (.int .u64 (JV e p).1),.v (.int .i64 (JV e p).2)]}:=bI (bE (.v _) (.v _)) (aNr e p) (.eE _ (bE (.v _) (.v _)))
theorem aNt (n a b:Int):aC Tryz.prog 156 [.v (.int .i64 n),.v (.int .i64 a),.v (.int .i64 b)]=some (.v (.bool (decide (a≤n) && decide (n≤b)))):=by
 rw[cL Tryz.func156 rfl aIA rfl];by_cases h:a≤n
 all_goals
  simp only[Z8,seval,h,decide_true,decide_false,Bool.true_and,Bool.false_and];exact bT rfl (by simp only[E8,seval,h,decide_true,decide_false,Bool.true_and,Bool.false_and]<;>rfl) (.v _)
theorem aNu (n a b:Int) (st:St) (d:Option Nat):aN (aC Tryz.prog) 156 [.v (.int .i64 n),.v (.int .i64 a),.v (.int .i64 b)] st d=some { dst:=d,val:=.v (.bool (decide (a≤n) && decide (n≤b)))}:=bI (lN (.v _) (.v _) (.v _)) (aNt n a b) (.v _)
noncomputable def Zx (a b:Int):Int × Int:=if IntKind.u64.wrap (18446744073709551615-b)<a then (0,4) else (IntKind.u64.wrap (a+b),0)
theorem aNv (a b:Int):aC Tryz.prog 196 [.v (.int .u64 a),.v (.int .u64 b)]=some (.eE [.v (.int .u64 (Zx a b).1),.v (.int .i64 (Zx a b).2)]):=by
 rw[cL Tryz.func196 rfl aIB rfl];unfold Zx;by_cases h:IntKind.u64.wrap (18446744073709551615-b)<a
 ·rw[if_pos h];simp only[Z8,seval,h];exact dO rfl rfl rfl (by simp only[E8,seval]<;>rfl) (by simp only[E8,seval]<;>rfl)
 ·rw[if_neg h];simp only[Z8,seval,h];exact dO rfl rfl rfl (by simp only[E8,seval]<;>rfl) (by simp only[E8,seval]<;>rfl)
theorem aEL (a b:Int) (st:St) (d:Option Nat):aN (aC Tryz.prog) 196 [.v (.int .u64 a),.v (.int .u64 b)] st d=some { dst:=d,val:=.eE [.v (.int .u64 (Zx a b).1),.v (.int .i64 (Zx a b).2)]}:=bI (bE (.v _) (.v _)) (aNv a b) (.eE _ (bE (.v _) (.v _)))
theorem CI (l:List Int):∀c∈bC l,fM c:=by rw[JW];intro c hc;obtain⟨x,_,rfl⟩:=List.mem_map.1 hc;exact .v _
theorem xT {ns:List Node} (h:gZ ns) {i:Int} (i0:0≤i) (i1:i<ns.length):i∈path ns i:=by
 by_cases hi:i=0
 ·subst hi;rw[qV (by omega)];simp
 ·rw[qW h (by omega) i1];simp
theorem Vb {ns:List Node} (h:gZ ns):∀(k:Nat) (i:Int),i.toNat=k→0≤i→i<ns.length→∀x∈path ns i,0≤x∧x≤i:=by
 intro k;induction k using Nat.strongRecOn with
 | _ k ih =>
   intro i hk i0 i1 x hx;by_cases hi:i=0
   ·subst hi;rw[qV (by omega)] at hx;simp at hx;omega
   ·obtain⟨u0,u1⟩:=h i (by omega) i1
    rw[qW h (by omega) i1] at hx
    rcases List.mem_append.1 hx with hx|hx
    ·have:=ih (nd ns i).up.toNat (by omega) _ rfl u0 (by omega) x hx
     omega
    ·simp at hx;omega
theorem uS {ns:List Node} (h:gZ ns) {i x:Int} (hx:x∈path ns i):0≤x∧x<ns.length:=by
 by_cases hi:0≤i∧i<ns.length
 ·have:=Vb h _ i rfl hi.1 hi.2 x hx;omega
 ·rw[xU hi] at hx;simp at hx
def Dr (ns:List Node) (s:Int) (l:List Int):Int:=l.foldl (fun r x=>if (nd ns x).block.slot≤s then x else r) (-1)
def EK (ns:List Node) (i s:Int):Int:=Dr ns s (path ns i)
theorem Vc (ns:List Node) (s:Int) (l:List Int) (x:Int):Dr ns s (l++[x])=if (nd ns x).block.slot≤s then x else Dr ns s l:=by simp[Dr]
theorem JX {ns:List Node} {i:Int} (s:Int) (h:¬(0≤i∧i<ns.length)):EK ns i s=-1:=by unfold EK;rw[xU h];rfl
theorem aAZ {l:List Int} {j:Int} (j0:0≤j) (j1:j<l.length):l.take (j+1).toNat=l.take j.toNat++[it l j]:=by
 obtain⟨h,e⟩:=wN j0 j1
 rw[e,show (j+1).toNat=j.toNat+1 by omega,List.take_succ_eq_append_getElem h]
theorem Ds {l:List Int} {j:Int} (j0:0≤j) (j1:j<l.length):it l j∈l:=by
 obtain⟨h,e⟩:=wN j0 j1
 rw[e];exact List.getElem_mem h
theorem aNw (ns:List Node) (hu:gZ ns) (hn:(ns.length:Int)<1000000) (i s:Int):aC Tryz.prog 100 [.agg (cP ⟨ns⟩),.v (.int .i64 i),.v (.int .u64 s)]=some (.v (.int .i64 (EK ns i s))):=by
 rw[cL Tryz.func100 rfl aIC rfl];by_cases hv:0≤i∧i<ns.length
 ·have hl:((path ns i).length:Int)<1000000:=by have:=Ag hu i;omega
  have hp:=k76 ns hu hn i hv.1 hv.2
  have hrg:∀x∈path ns i,0≤x∧x<ns.length:=fun x=>uS hu
  unfold EK;generalize path ns i=p at hl hp hrg
  simp only[ZZ,seval,hp];refine mH (fun n st=>∃j:Int,st.env 2=.v (.int .u64 s)∧st.env 3=.ptr 3 0 0∧st.heap 3 0=some (.cells (cP ⟨ns⟩))∧st.env 8=.own 12 0∧st.heap 12 0=some (.row 3 1 p.length (aK p))∧st.env 9=.v (.int .i64 j)∧st.env 7=.v (.int .i64 (Dr ns s (p.take j.toNat)))∧0≤j∧j≤p.length∧n=(p.length-j).toNat)
   (fun e st=>e=.exit 0∧st.env 7=.v (.int .i64 (Dr ns s p))) p.length ?step ?start ?rest
  case step =>
   rintro n st ⟨j,h2,h3,RH,h8,hh8,h9,h7,j0,j1,Iw⟩
   by_cases bB:j<p.length
   ·have hw:IntKind.i64.wrap (j+1)=j+1:=Ix _ (by omega) (by omega)
    obtain⟨x0,x1⟩:=hrg _ (Ds j0 bB)
    have ht:=aAZ j0 bB
    by_cases hs:(nd ns (it p j)).block.slot≤s
    ·apply oN ((p.length-(j+1)).toNat)
     ·simp only[ZZ,seval,h2,h3,RH,h8,hh8,h9,bB,j0,hw,x0,x1,hs];rfl
     ·exact⟨j+1,by simp only[EV,seval,h2],by simp only[EV,seval,h3],by simp only[EV,seval,RH],by simp only[EV,seval,h8],by simp only[EV,seval,hh8],(by simp only[EV,seval]),by simp only[EV,seval,ht,Vc,hs],by omega,by omega,rfl⟩
    ·apply oN ((p.length-(j+1)).toNat)
     ·simp only[ZZ,seval,h2,h3,RH,h8,hh8,h9,bB,j0,hw,x0,x1,hs];rfl
     ·exact⟨j+1,by simp only[EV,seval,h2],by simp only[EV,seval,h3],by simp only[EV,seval,RH],by simp only[EV,seval,h8],by simp only[EV,seval,hh8],(by simp only[EV,seval]),by simp only[EV,seval,ht,Vc,hs,h7],by omega,by omega,rfl⟩
   ·have ht:p.take j.toNat=p:=List.take_of_length_le (by omega)
    apply oT (.exit 0)
    ·simp only[ZZ,seval,h2,h3,RH,h8,hh8,h9,bB,j0];rfl
    ·exact⟨rfl,by rw[← ht];exact h7⟩
  case start=>exact⟨0,(by simp only[EV,seval]),(by simp only[EV,seval]),(by simp only[EV,seval]),(by simp only[EV,seval]),(by simp only[EV,seval]),(by simp only[EV,seval]),(by simp only[EV,seval];rfl),by omega,by omega,by omega⟩
  case rest =>
   rintro e st ⟨rfl,h⟩
   simp only[ZZ,seval,h];exact bT rfl (by simp only[EV,seval]) (.v _)
 ·rw[JX s hv];simp only[ZZ,seval,YU ns i hv,Cf,Int.natCast_zero,Int.lt_irrefl,decide_false];exact bT rfl (by simp only[EV,seval]) (.v _)
theorem JY (ns:List Node) (hu:gZ ns) (hn:(ns.length:Int)<1000000) (i s:Int) (st:St) (d:Option Nat):aN (aC Tryz.prog) 100 [.agg (cP ⟨ns⟩),.v (.int .i64 i),.v (.int .u64 s)] st d=some { dst:=d,val:=.v (.int .i64 (EK ns i s))}:=bI (lN (nJ _) (.v _) (.v _)) (aNw ns hu hn i s) (.v _)
theorem aEN {ns:List Node} (hu:gZ ns) {a c:Int} (h1:c<ns.length) (h:a<c) (a0:0≤a):wY ns a c=wY ns a (nd ns c).up:=by
 unfold wY;rw[decide_eq_decide,qW hu (by omega) h1]
 simp only[List.mem_append,List.mem_singleton];constructor
 ·rintro (hm|rfl)
  ·exact hm
  ·omega
 ·exact .inl
theorem YV {ns:List Node} (hu:gZ ns) {a c:Int} (h:¬((0≤a∧a<ns.length)∧(0≤c∧c<ns.length))):wY ns a c=false:=by
 unfold wY;rw[decide_eq_false_iff_not];intro hm;by_cases hc:0≤c∧c<ns.length
 ·exact h ⟨uS hu hm,hc⟩
 ·rw[xU hc] at hm;simp at hm
theorem Vd {ns:List Node} (hu:gZ ns) {a c:Int} (h:wY ns a c=true):(0≤a∧a<ns.length)∧(0≤c∧c<ns.length):=by
 by_cases hv:(0≤a∧a<ns.length)∧(0≤c∧c<ns.length)
 ·exact hv
 ·rw[YV hu hv] at h;cases h
theorem H4 {ns:List Node} (hu:gZ ns) {a c:Int} (h:wY ns a c=true):a≤c:=by
 have hr:=(Vd hu h).2
 unfold wY at h;exact (Vb hu _ c rfl hr.1 hr.2 a (of_decide_eq_true h)).2
theorem aNx (a b:List Node) (hn:(a.length:Int)<1000000):aC Tryz.prog 106 [.agg (cP ⟨a⟩),.agg (cP ⟨b⟩)]=some (.v (.bool (decide (a=b)))):=by
 rw[cL Tryz.func106 rfl aDE rfl];by_cases hlen:a.length=b.length
 ·have hq:((a.length:Int) != (b.length:Int))=false:=by simp[hlen]
  simp only[ZZ,seval,hq];refine mH (fun n st=>∃i:Int,st.env 2=.ptr 2 0 0∧st.env 3=.ptr 3 0 0∧st.heap 2 0=some (.cells (cP ⟨a⟩))∧st.heap 3 0=some (.cells (cP ⟨b⟩))∧st.env 5=.v (.int .i64 i)∧0≤i∧i≤a.length∧n=(a.length-i).toNat∧∀j,0≤j→j<i→nd a j=nd b j)
   (fun e st=>(e=.ret∧st.env 4=.v (.bool (decide (a=b))))∨(e=.exit 0∧decide (a=b)=true)) a.length ?step ?start ?rest
  case step =>
   rintro n st ⟨i,h2,h3,tG,RH,h5,i0,i1,Iw,hb⟩
   by_cases bB:i<a.length
   ·have hw:IntKind.i64.wrap (i+1)=i+1:=Ix _ (by omega) (by omega)
    have JR:i<b.length:=by omega
    by_cases hr:nd a i=nd b i
    ·have hbq:decide (nd a i=nd b i)=true:=by simp[hr]
     apply oN ((a.length-(i+1)).toNat)
     ·simp only[ZZ,seval,h2,h3,tG,RH,h5,bB,JR,i0,hbq,hw];rfl
     ·exact⟨i+1,by simp only[EV,seval,h2],by simp only[EV,seval,h3],by simp only[EV,seval,tG],by simp only[EV,seval,RH],(by simp only[EV,seval]),by omega,by omega,rfl,fun j j0 j1=>by
      rcases Int.lt_or_eq_of_le (show j≤i by omega) with h|rfl
      ·exact hb j j0 h
      ·exact hr⟩
    ·have hbq:decide (nd a i=nd b i)=false:=by simp[hr]
     have hd:decide (a=b)=false:=by rw[decide_eq_false_iff_not];intro h;exact hr (by rw[h])
     apply oT (.ret)
     ·simp only[ZZ,seval,h2,h3,tG,RH,h5,bB,JR,i0,hbq];rfl
     ·exact .inl ⟨rfl,by simp only[EV,seval,hd]⟩
   ·apply oT (.exit 0)
    ·simp only[ZZ,seval,h2,h3,tG,RH,h5,bB,i0];rfl
    ·exact .inr ⟨rfl,by
     rw[decide_eq_true_eq];apply List.ext_getElem hlen
     intro j h1 h2;have:=hb j (by omega) (by omega)
     simpa [nd,h1,h2] using this⟩
  case start=>exact⟨0,(by simp only[EV,seval]),(by simp only[EV,seval]),(by simp only[EV,seval]),(by simp only[EV,seval]),(by simp only[EV,seval]),by omega,by omega,by omega,fun j _ _=>by omega⟩
  case rest =>
   rintro e st (⟨rfl,h⟩|⟨rfl,h⟩)
   ·simp only[ZZ,seval];exact bT rfl h (.v _)
   ·simp only[ZZ,seval];exact bT rfl (by simp only[EV,seval,h]) (.v _)
 ·have hq:((a.length:Int) != (b.length:Int))=true:=by simp;omega
  have hd:decide (a=b)=false:=by rw[decide_eq_false_iff_not];intro h;exact hlen (by rw[h])
  simp only[ZZ,seval,hq];exact bT rfl (by simp only[EV,seval,hd]) (.v _)
theorem H5:Flat (.agg [.v (.slice none 0 0)]):=.agg _ (by simp;exact .v _)
theorem aIF:aC Tryz.prog 106 [.agg [.v (.slice none 0 0)],.agg [.v (.slice none 0 0)]]=some (.v (.bool true)):=by
 rw[cL Tryz.func106 rfl aDE rfl];simp only[ZZ,seval,Cf,Int.natCast_zero,Int.lt_irrefl,decide_false,bne_self_eq_false];exact bT rfl (by simp only[EV,seval]) (.v _)
theorem aNy (a b:List Node) (hn:(a.length:Int)<1000000) (st:St) (d:Option Nat):aN (aC Tryz.prog) 106 [.agg (cP ⟨a⟩),.agg (cP ⟨b⟩)] st d=some { dst:=d,val:=.v (.bool (decide (a=b)))}:=bI (bE (nJ _) (nJ _)) (aNx a b hn) (.v _)
theorem aIG (st:St) (d:Option Nat):aN (aC Tryz.prog) 106 [.agg [.v (.slice none 0 0)],.agg [.v (.slice none 0 0)]] st d=some { dst:=d,val:=.v (.bool true)}:=bI (bE H5 H5) aIF (.v _)
def oJ (ns:List Node) (i:Int):Nat→List Node × List Int
 | 0=>([],[])
 | k+1 =>
   let p:=oJ ns i k
   if wY ns i k=true then (p.1++[{ nd ns k with up:=if (k:Int)=i then -1 else it p.2 (nd ns k).up }],p.2++[(p.1.length:Int)]) else (p.1,p.2++[-1])
theorem Dt (ns:List Node) (i:Int):∀k,(oJ ns i k).2.length=k
 | 0=>rfl
 | k+1=>by
   have:=Dt ns i k
   simp only[oJ];split<;>simp[this]
theorem Pp (ns:List Node) (i:Int):∀k,(oJ ns i k).1.length≤k
 | 0=>Nat.le_refl _
 | k+1=>by
   have:=Pp ns i k
   simp only[oJ];split
   ·simp;exact this
   ·simp;omega
theorem lZ {l m:List Int} {j:Int} (h0:0≤j) (h1:j<l.length):it (l++m) j=it l j:=by
 have:j.toNat<l.length:=by omega
 simp[it,List.getElem?_append_left this]
theorem Cg {l:List Int} {x:Int} {j:Int} (h:j=l.length):it (l++[x]) j=x:=by
 subst h;simp[it]
theorem Ib {l m:List Node} {j:Int} (h0:0≤j) (h1:j<l.length):nd (l++m) j=nd l j:=by
 have:j.toNat<l.length:=by omega
 simp[nd,List.getElem?_append_left this]
theorem CJ {l:List Node} {x:Node} {j:Int} (h:j=l.length):nd (l++[x]) j=x:=by
 subst h;simp[nd]
theorem JZ {ns:List Node} (hu:gZ ns) {i:Int} (i0:0≤i) (i1:i<ns.length):wY ns i i=true:=by
 unfold wY;rw[decide_eq_true_eq];by_cases h:i=0
 ·subst h;rw[qV (by omega)];simp
 ·rw[qW hu (by omega) i1];simp
theorem KA {ns:List Node} {a:Int} (h:0<ns.length):wY ns a 0=decide (a=0):=by
 unfold wY;rw[qV h];simp
theorem aEP (ns:List Node) (hu:gZ ns) {i:Int} (i0:0≤i) (i1:i<ns.length):(oJ ns i ns.length).1≠[]:=by
 have main:∀k:Nat,i<k→k≤ns.length→(oJ ns i k).1≠[]:=by
  intro k;induction k with
  | zero=>intro h;omega
  | succ k ih =>
    intro h1 h2;by_cases hk:i<k
    ·have:=ih hk (by omega)
     simp only[oJ];split
     ·simp
     ·exact this
    ·have hki:i=k:=by omega
     have:wY ns i k=true:=by rw[← hki];exact JZ hu i0 i1
     simp[oJ,this]
 exact main ns.length i1 (Nat.le_refl _)
def aIH (st:St) (s1 s2:Nat) (y:AV) (l:List Int):Prop :=
 (y=.v (.slice none 0 0)∧l=[])∨(∃g,y=.own s1 g∧g<st.aQ s1∧st.heap s1 g=some (.row 3 1 l.length (aK l)))∨(∃g,y=.own s2 g∧g<st.aQ s2∧st.heap s2 g=some (.row 3 1 l.length (aK l)))
def aII (st:St) (s1:Nat) (x:AV) (l:List Node):Prop :=
 (x=.v (.slice none 0 0)∧l=[])∨(∃g,x=.own s1 g∧g<st.aQ s1∧st.heap s1 g=some (.row 76 240 l.length (cC l)))
theorem c34 (ns:List Node) (hu:gZ ns) (hn:(ns.length:Int)<1000000) (i:Int) (i0:0≤i) (i1:i<ns.length):aC Tryz.prog 34 [.agg (cP ⟨ns⟩),.v (.int .i64 i)] =
 some (.eE [.agg (cP ⟨(oJ ns i ns.length).1⟩),.sl (oJ ns i ns.length).2.length (aK (oJ ns i ns.length).2),.v (.int .i64 0)]):=by
 have hd:(decide (0≤i) && decide (i<ns.length))=true:=by simp[i0,i1]
 rw[cL Tryz.func34 rfl aNz rfl];simp only[ZZ,seval,QO,hd];refine mH (fun n st=>∃(k:Nat) (x y:AV),st.env 2=.ptr 2 0 0∧st.heap 2 0=some (.cells (cP ⟨ns⟩))∧st.env 4=.ptr 4 0 0∧st.heap 4 0=some (.cells [.v (.slice none 0 0)])∧st.env 7=.ptr 7 0 0∧st.heap 7 0=some (.cells [x]) ∧
  st.env 1=.v (.int .i64 i)∧st.env 9=.v (.int .i64 k)∧k≤ns.length∧n=ns.length-k∧st.env 8=y∧aIH st 30 51 y (oJ ns i k).2∧aII st 56 x (oJ ns i k).1)
  (fun e st=>e=.exit 0∧∃(x y:AV),st.env 4=.ptr 4 0 0∧st.heap 4 0=some (.cells [.v (.slice none 0 0)])∧st.env 7=.ptr 7 0 0∧st.heap 7 0=some (.cells [x])∧st.env 8=y∧aIH st 30 51 y (oJ ns i ns.length).2∧aII st 56 x (oJ ns i ns.length).1) ns.length ?step ?start ?rest
 case step =>
  rintro n st ⟨k,x,y,h2,tG,h4,Du,h7,Fo,h1,h9,hk,Iw,h8,hy,hx⟩
  have hlen:=Dt ns i k
  have hlen2:=Pp ns i k
  have Pl:((oJ ns i k).2.length:Int)<1000000:=by omega
  have YW:((oJ ns i k).1.length:Int)<1000000:=by omega
  by_cases bB:(k:Int)<ns.length
  ·have hw:IntKind.i64.wrap ((k:Int)+1)=((k+1:Nat):Int):=by rw[Ix _ (by omega) (by omega)];simp
   have k0:(0:Int)≤k:=by omega
   by_cases Mn:wY ns i k=true
   ·have hs:oJ ns i (k+1)=((oJ ns i k).1++[{ nd ns k with up:=if (k:Int)=i then -1 else it (oJ ns i k).2 (nd ns k).up }],(oJ ns i k).2++[((oJ ns i k).1.length:Int)]):=by simp only[oJ,Mn,if_true]
    have upb:(k:Int)≠i→0≤(nd ns k).up∧(nd ns k).up<(oJ ns i k).2.length:=fun gT=>by
     rcases Nat.eq_zero_or_pos k with h0|h0
     ·subst h0;rw[show ((0:Nat):Int)=0 from rfl,KA (by omega)] at Mn
      simp at Mn
      omega
     ·have:=hu k (by omega) bB
      rw[hlen];omega
    by_cases hki:(k:Int)=i
    ·have hq:((k:Int) == i)=true:=by simp[hki]
     rw[if_pos hki] at hs;rcases hy with ⟨rfl,hy⟩|⟨g,rfl,hg,hy⟩|⟨g,rfl,hg,hy⟩<;>rcases hx with ⟨rfl,hx⟩|⟨g',rfl,YX,hx⟩
     ·rw[hy,hx] at hs;apply oN ((ns.length-(k+1)))
      ·simp only[ZZ,seval,h2,tG,h4,Du,h7,Fo,h1,h9,h8,bB,k0,sS ns hu hn,Mn,hw,hq];rfl
      ·exact⟨k+1,_,_,(by simp only[EV,seval,h2]),(by simp only[EV,seval,tG]),(by simp only[EV,seval,h4]),(by simp only[EV,seval,Du]),(by simp only[EV,seval,h7]),(by simp only[EV,seval];rfl),(by simp only[EV,seval,h1]),(by simp only[EV,seval]),by omega,by omega,(by simp only[EV,seval];rfl),(by rw[hs];(try simp only[List.nil_append]);exact .inr (.inr ⟨_,rfl,(by simp only[EV,seval]<;>omega),(by simp only[EV,seval]<;>rfl)⟩)),(by rw[hs];(try simp only[List.nil_append]);exact .inr ⟨_,rfl,(by simp only[EV,seval]<;>omega),(by simp only[EV,seval]<;>rfl)⟩)⟩
     ·rw[hy] at hs;apply oN ((ns.length-(k+1)))
      ·simp only[ZZ,seval,h2,tG,h4,Du,h7,Fo,h1,h9,h8,bB,k0,sS ns hu hn,Mn,hw,hq,hx,YW];rfl
      ·exact⟨k+1,_,_,(by simp only[EV,seval,h2]),(by simp only[EV,seval,tG]),(by simp only[EV,seval,h4]),(by simp only[EV,seval,Du]),(by simp only[EV,seval,h7]),(by simp only[EV,seval];rfl),(by simp only[EV,seval,h1]),(by simp only[EV,seval]),by omega,by omega,(by simp only[EV,seval];rfl),(by rw[hs];(try simp only[List.nil_append]);exact .inr (.inr ⟨_,rfl,(by simp only[EV,seval]<;>omega),(by simp only[EV,seval]<;>rfl)⟩)),(by rw[hs];(try simp only[List.nil_append]);exact .inr ⟨_,rfl,(by simp only[EV,seval]<;>omega),(by simp only[EV,seval]<;>rfl)⟩)⟩
     ·rw[hx] at hs;apply oN ((ns.length-(k+1)))
      ·simp only[ZZ,seval,h2,tG,h4,Du,h7,Fo,h1,h9,h8,bB,k0,sS ns hu hn,Mn,hw,hq,hy,Pl];rfl
      ·exact⟨k+1,_,_,(by simp only[EV,seval,h2]),(by simp only[EV,seval,tG]),(by simp only[EV,seval,h4]),(by simp only[EV,seval,Du]),(by simp only[EV,seval,h7]),(by simp only[EV,seval];rfl),(by simp only[EV,seval,h1]),(by simp only[EV,seval]),by omega,by omega,(by simp only[EV,seval];rfl),(by rw[hs];(try simp only[List.nil_append]);exact .inr (.inr ⟨_,rfl,(by simp only[EV,seval]<;>omega),(by simp only[EV,seval]<;>rfl)⟩)),(by rw[hs];(try simp only[List.nil_append]);exact .inr ⟨_,rfl,(by simp only[EV,seval]<;>omega),(by simp only[EV,seval]<;>rfl)⟩)⟩
     ·apply oN ((ns.length-(k+1)))
      ·simp only[ZZ,seval,h2,tG,h4,Du,h7,Fo,h1,h9,h8,bB,k0,sS ns hu hn,Mn,hw,hq,hy,Pl,hx,YW];rfl
      ·exact⟨k+1,_,_,(by simp only[EV,seval,h2]),(by simp only[EV,seval,tG]),(by simp only[EV,seval,h4]),(by simp only[EV,seval,Du]),(by simp only[EV,seval,h7]),(by simp only[EV,seval];rfl),(by simp only[EV,seval,h1]),(by simp only[EV,seval]),by omega,by omega,(by simp only[EV,seval];rfl),(by rw[hs];(try simp only[List.nil_append]);exact .inr (.inr ⟨_,rfl,(by simp only[EV,seval]<;>omega),(by simp only[EV,seval]<;>rfl)⟩)),(by rw[hs];(try simp only[List.nil_append]);exact .inr ⟨_,rfl,(by simp only[EV,seval]<;>omega),(by simp only[EV,seval]<;>rfl)⟩)⟩
     ·rw[hx] at hs;apply oN ((ns.length-(k+1)))
      ·simp only[ZZ,seval,h2,tG,h4,Du,h7,Fo,h1,h9,h8,bB,k0,sS ns hu hn,Mn,hw,hq,hy,Pl];rfl
      ·exact⟨k+1,_,_,(by simp only[EV,seval,h2]),(by simp only[EV,seval,tG]),(by simp only[EV,seval,h4]),(by simp only[EV,seval,Du]),(by simp only[EV,seval,h7]),(by simp only[EV,seval];rfl),(by simp only[EV,seval,h1]),(by simp only[EV,seval]),by omega,by omega,(by simp only[EV,seval];rfl),(by rw[hs];(try simp only[List.nil_append]);exact .inr (.inr ⟨_,rfl,(by simp only[EV,seval]<;>omega),(by simp only[EV,seval]<;>rfl)⟩)),(by rw[hs];(try simp only[List.nil_append]);exact .inr ⟨_,rfl,(by simp only[EV,seval]<;>omega),(by simp only[EV,seval]<;>rfl)⟩)⟩
     ·apply oN ((ns.length-(k+1)))
      ·simp only[ZZ,seval,h2,tG,h4,Du,h7,Fo,h1,h9,h8,bB,k0,sS ns hu hn,Mn,hw,hq,hy,Pl,hx,YW];rfl
      ·exact⟨k+1,_,_,(by simp only[EV,seval,h2]),(by simp only[EV,seval,tG]),(by simp only[EV,seval,h4]),(by simp only[EV,seval,Du]),(by simp only[EV,seval,h7]),(by simp only[EV,seval];rfl),(by simp only[EV,seval,h1]),(by simp only[EV,seval]),by omega,by omega,(by simp only[EV,seval];rfl),(by rw[hs];(try simp only[List.nil_append]);exact .inr (.inr ⟨_,rfl,(by simp only[EV,seval]<;>omega),(by simp only[EV,seval]<;>rfl)⟩)),(by rw[hs];(try simp only[List.nil_append]);exact .inr ⟨_,rfl,(by simp only[EV,seval]<;>omega),(by simp only[EV,seval]<;>rfl)⟩)⟩
    ·have hq:((k:Int) == i)=false:=by simp[hki]
     obtain⟨u0,u1⟩:=upb hki
     rw[if_neg hki] at hs;rcases hy with ⟨rfl,hy⟩|⟨g,rfl,hg,hy⟩|⟨g,rfl,hg,hy⟩<;>rcases hx with ⟨rfl,hx⟩|⟨g',rfl,YX,hx⟩
     ·exfalso;rw[hy] at u1;simp at u1;omega
     ·exfalso;rw[hy] at u1;simp at u1;omega
     ·rw[hx] at hs;apply oN ((ns.length-(k+1)))
      ·simp only[ZZ,seval,h2,tG,h4,Du,h7,Fo,h1,h9,h8,bB,k0,sS ns hu hn,Mn,hw,hq,u0,u1,hy,Pl];rfl
      ·exact⟨k+1,_,_,(by simp only[EV,seval,h2]),(by simp only[EV,seval,tG]),(by simp only[EV,seval,h4]),(by simp only[EV,seval,Du]),(by simp only[EV,seval,h7]),(by simp only[EV,seval];rfl),(by simp only[EV,seval,h1]),(by simp only[EV,seval]),by omega,by omega,(by simp only[EV,seval];rfl),(by rw[hs];(try simp only[List.nil_append]);exact .inr (.inr ⟨_,rfl,(by simp only[EV,seval]<;>omega),(by simp only[EV,seval]<;>rfl)⟩)),(by rw[hs];(try simp only[List.nil_append]);exact .inr ⟨_,rfl,(by simp only[EV,seval]<;>omega),(by simp only[EV,seval]<;>rfl)⟩)⟩
     ·apply oN ((ns.length-(k+1)))
      ·simp only[ZZ,seval,h2,tG,h4,Du,h7,Fo,h1,h9,h8,bB,k0,sS ns hu hn,Mn,hw,hq,u0,u1,hy,Pl,hx,YW];rfl
      ·exact⟨k+1,_,_,(by simp only[EV,seval,h2]),(by simp only[EV,seval,tG]),(by simp only[EV,seval,h4]),(by simp only[EV,seval,Du]),(by simp only[EV,seval,h7]),(by simp only[EV,seval];rfl),(by simp only[EV,seval,h1]),(by simp only[EV,seval]),by omega,by omega,(by simp only[EV,seval];rfl),(by rw[hs];(try simp only[List.nil_append]);exact .inr (.inr ⟨_,rfl,(by simp only[EV,seval]<;>omega),(by simp only[EV,seval]<;>rfl)⟩)),(by rw[hs];(try simp only[List.nil_append]);exact .inr ⟨_,rfl,(by simp only[EV,seval]<;>omega),(by simp only[EV,seval]<;>rfl)⟩)⟩
     ·rw[hx] at hs;apply oN ((ns.length-(k+1)))
      ·simp only[ZZ,seval,h2,tG,h4,Du,h7,Fo,h1,h9,h8,bB,k0,sS ns hu hn,Mn,hw,hq,u0,u1,hy,Pl];rfl
      ·exact⟨k+1,_,_,(by simp only[EV,seval,h2]),(by simp only[EV,seval,tG]),(by simp only[EV,seval,h4]),(by simp only[EV,seval,Du]),(by simp only[EV,seval,h7]),(by simp only[EV,seval];rfl),(by simp only[EV,seval,h1]),(by simp only[EV,seval]),by omega,by omega,(by simp only[EV,seval];rfl),(by rw[hs];(try simp only[List.nil_append]);exact .inr (.inr ⟨_,rfl,(by simp only[EV,seval]<;>omega),(by simp only[EV,seval]<;>rfl)⟩)),(by rw[hs];(try simp only[List.nil_append]);exact .inr ⟨_,rfl,(by simp only[EV,seval]<;>omega),(by simp only[EV,seval]<;>rfl)⟩)⟩
     ·apply oN ((ns.length-(k+1)))
      ·simp only[ZZ,seval,h2,tG,h4,Du,h7,Fo,h1,h9,h8,bB,k0,sS ns hu hn,Mn,hw,hq,u0,u1,hy,Pl,hx,YW];rfl
      ·exact⟨k+1,_,_,(by simp only[EV,seval,h2]),(by simp only[EV,seval,tG]),(by simp only[EV,seval,h4]),(by simp only[EV,seval,Du]),(by simp only[EV,seval,h7]),(by simp only[EV,seval];rfl),(by simp only[EV,seval,h1]),(by simp only[EV,seval]),by omega,by omega,(by simp only[EV,seval];rfl),(by rw[hs];(try simp only[List.nil_append]);exact .inr (.inr ⟨_,rfl,(by simp only[EV,seval]<;>omega),(by simp only[EV,seval]<;>rfl)⟩)),(by rw[hs];(try simp only[List.nil_append]);exact .inr ⟨_,rfl,(by simp only[EV,seval]<;>omega),(by simp only[EV,seval]<;>rfl)⟩)⟩
   ·have Ve:wY ns i k=false:=by simpa using Mn
    have hs:oJ ns i (k+1)=((oJ ns i k).1,(oJ ns i k).2++[-1]):=by simp[oJ,Ve]
    rcases hy with ⟨rfl,hy⟩|⟨g,rfl,hg,hy⟩|⟨g,rfl,hg,hy⟩<;>rcases hx with ⟨rfl,hx⟩|⟨g',rfl,YX,hx⟩
    ·rw[hy,hx] at hs;apply oN ((ns.length-(k+1)))
     ·simp only[ZZ,seval,h2,tG,h4,Du,h7,Fo,h1,h9,h8,bB,k0,sS ns hu hn,Ve,hw];rfl
     ·exact⟨k+1,_,_,(by simp only[EV,seval,h2]),(by simp only[EV,seval,tG]),(by simp only[EV,seval,h4]),(by simp only[EV,seval,Du]),(by simp only[EV,seval,h7]),(by simp only[EV,seval,Fo];rfl),(by simp only[EV,seval,h1]),(by simp only[EV,seval]),by omega,by omega,(by simp only[EV,seval];rfl),(by rw[hs];(try simp only[List.nil_append]);exact .inr (.inl ⟨_,rfl,(by simp only[EV,seval]<;>omega),(by simp only[EV,seval]<;>rfl)⟩)),(by rw[hs];exact .inl ⟨rfl,rfl⟩)⟩
    ·rw[hy] at hs;apply oN ((ns.length-(k+1)))
     ·simp only[ZZ,seval,h2,tG,h4,Du,h7,Fo,h1,h9,h8,bB,k0,sS ns hu hn,Ve,hw,hx,YW];rfl
     ·exact⟨k+1,_,_,(by simp only[EV,seval,h2]),(by simp only[EV,seval,tG]),(by simp only[EV,seval,h4]),(by simp only[EV,seval,Du]),(by simp only[EV,seval,h7]),(by simp only[EV,seval,Fo];rfl),(by simp only[EV,seval,h1]),(by simp only[EV,seval]),by omega,by omega,(by simp only[EV,seval];rfl),(by rw[hs];(try simp only[List.nil_append]);exact .inr (.inl ⟨_,rfl,(by simp only[EV,seval]<;>omega),(by simp only[EV,seval]<;>rfl)⟩)),(by rw[hs];exact .inr ⟨_,rfl,(by simp only[EV,seval]<;>omega),(by simp only[EV,seval,hx])⟩)⟩
    ·rw[hx] at hs;apply oN ((ns.length-(k+1)))
     ·simp only[ZZ,seval,h2,tG,h4,Du,h7,Fo,h1,h9,h8,bB,k0,sS ns hu hn,Ve,hw,hy,Pl];rfl
     ·exact⟨k+1,_,_,(by simp only[EV,seval,h2]),(by simp only[EV,seval,tG]),(by simp only[EV,seval,h4]),(by simp only[EV,seval,Du]),(by simp only[EV,seval,h7]),(by simp only[EV,seval,Fo];rfl),(by simp only[EV,seval,h1]),(by simp only[EV,seval]),by omega,by omega,(by simp only[EV,seval];rfl),(by rw[hs];(try simp only[List.nil_append]);exact .inr (.inl ⟨_,rfl,(by simp only[EV,seval]<;>omega),(by simp only[EV,seval]<;>rfl)⟩)),(by rw[hs];exact .inl ⟨rfl,rfl⟩)⟩
    ·apply oN ((ns.length-(k+1)))
     ·simp only[ZZ,seval,h2,tG,h4,Du,h7,Fo,h1,h9,h8,bB,k0,sS ns hu hn,Ve,hw,hy,Pl,hx,YW];rfl
     ·exact⟨k+1,_,_,(by simp only[EV,seval,h2]),(by simp only[EV,seval,tG]),(by simp only[EV,seval,h4]),(by simp only[EV,seval,Du]),(by simp only[EV,seval,h7]),(by simp only[EV,seval,Fo];rfl),(by simp only[EV,seval,h1]),(by simp only[EV,seval]),by omega,by omega,(by simp only[EV,seval];rfl),(by rw[hs];(try simp only[List.nil_append]);exact .inr (.inl ⟨_,rfl,(by simp only[EV,seval]<;>omega),(by simp only[EV,seval]<;>rfl)⟩)),(by rw[hs];exact .inr ⟨_,rfl,(by simp only[EV,seval]<;>omega),(by simp only[EV,seval,hx])⟩)⟩
    ·rw[hx] at hs;apply oN ((ns.length-(k+1)))
     ·simp only[ZZ,seval,h2,tG,h4,Du,h7,Fo,h1,h9,h8,bB,k0,sS ns hu hn,Ve,hw,hy,Pl];rfl
     ·exact⟨k+1,_,_,(by simp only[EV,seval,h2]),(by simp only[EV,seval,tG]),(by simp only[EV,seval,h4]),(by simp only[EV,seval,Du]),(by simp only[EV,seval,h7]),(by simp only[EV,seval,Fo];rfl),(by simp only[EV,seval,h1]),(by simp only[EV,seval]),by omega,by omega,(by simp only[EV,seval];rfl),(by rw[hs];(try simp only[List.nil_append]);exact .inr (.inl ⟨_,rfl,(by simp only[EV,seval]<;>omega),(by simp only[EV,seval]<;>rfl)⟩)),(by rw[hs];exact .inl ⟨rfl,rfl⟩)⟩
    ·apply oN ((ns.length-(k+1)))
     ·simp only[ZZ,seval,h2,tG,h4,Du,h7,Fo,h1,h9,h8,bB,k0,sS ns hu hn,Ve,hw,hy,Pl,hx,YW];rfl
     ·exact⟨k+1,_,_,(by simp only[EV,seval,h2]),(by simp only[EV,seval,tG]),(by simp only[EV,seval,h4]),(by simp only[EV,seval,Du]),(by simp only[EV,seval,h7]),(by simp only[EV,seval,Fo];rfl),(by simp only[EV,seval,h1]),(by simp only[EV,seval]),by omega,by omega,(by simp only[EV,seval];rfl),(by rw[hs];(try simp only[List.nil_append]);exact .inr (.inl ⟨_,rfl,(by simp only[EV,seval]<;>omega),(by simp only[EV,seval]<;>rfl)⟩)),(by rw[hs];exact .inr ⟨_,rfl,(by simp only[EV,seval]<;>omega),(by simp only[EV,seval,hx])⟩)⟩
  ·have Fy:k=ns.length:=by omega
   subst Fy;apply oT (.exit 0)
   ·simp only[ZZ,seval,h2,tG,h4,Du,h7,Fo,h1,h9,h8,bB];rfl
   ·exact⟨rfl,x,y,(by simp only[EV,seval,h4]),(by simp only[EV,seval,Du]),(by simp only[EV,seval,h7]),(by simp only[EV,seval,Fo]),(by simp only[EV,seval,h8]),hy,hx⟩
 case start=>exact⟨0,_,_,(by simp only[EV,seval]),(by simp only[EV,seval]),(by simp only[EV,seval]),(by simp only[EV,seval]),(by simp only[EV,seval]),(by simp only[EV,seval]<;>rfl),(by simp only[EV,seval]),(by simp only[EV,seval]<;>rfl),by omega,by omega,(by simp only[EV,seval]<;>rfl),.inl ⟨rfl,rfl⟩,.inl ⟨rfl,rfl⟩⟩
 case rest =>
  rintro e st ⟨rfl,x,y,h4,Du,h7,Fo,h8,hy,hx⟩
  have hlen:=Dt ns i ns.length
  have gT:=aEP ns hu i0 i1
  rcases hy with ⟨rfl,hy⟩|⟨g,rfl,hg,hy⟩|⟨g,rfl,hg,hy⟩<;>rcases hx with ⟨rfl,hx⟩|⟨g',rfl,YX,hx⟩
  ·exact absurd hx gT
  ·rw[hy] at hlen;simp at hlen;omega
  ·exact absurd hx gT
  ·simp only[ZZ,seval,h4,Du,h7,Fo,h8];exact cN rfl (by simp only[bJ,ZZ,seval,h4,Du,h7,Fo,h8];rfl) (by simp only[bJ,EV,seval]<;>rfl) (by simp only[bJ,EV,seval]<;>rfl) (by simp only[EV,seval,hx,Option.map_some]<;>rfl) (by simp only[EV,seval,hy]) (by simp only[EV,seval])
  ·exact absurd hx gT
  ·simp only[ZZ,seval,h4,Du,h7,Fo,h8];exact cN rfl (by simp only[bJ,ZZ,seval,h4,Du,h7,Fo,h8];rfl) (by simp only[bJ,EV,seval]<;>rfl) (by simp only[bJ,EV,seval]<;>rfl) (by simp only[EV,seval,hx,Option.map_some]<;>rfl) (by simp only[EV,seval,hy]) (by simp only[EV,seval])
theorem YY {P:Program} {b:Code} {st:St} {k:Ex × St→Option (Ex × St)} {R:Ex→St→Prop} (Inv:Nat→St→Prop) (Q:Ex→St→Prop) (n:Nat)
 (step:∀n st,Inv n st→∃e st',yH P b st=some (e,st')∧((e=.normal∧∃m,m<n∧Inv m st')∨(e≠.normal∧Q e st')))
 (start:Inv n st) (rest:∀e st',Q e st'→∃e' H6,k (e,st')=some (e',H6)∧R e' H6):∃e' H6,cD (yH P (.loop b) st) k=some (e',H6)∧R e' H6:=by
 obtain⟨e,s1,h1,h2,h3⟩:=Pq Inv Q step n st start
 rw[h1];exact rest e s1 h3
theorem H7 {x:Option (Ex × St)} {st':St} {n:Nat} {Inv:Nat→St→Prop} {Q:Ex→St→Prop} (h:x=some (.normal,st')) (m:Nat) (hm:m<n) (hi:Inv m st') :
 ∃e st',x=some (e,st')∧((e=.normal∧∃m,m<n∧Inv m st')∨(e≠.normal∧Q e st')):=⟨_,_,h,.inl ⟨rfl,m,hm,hi⟩⟩
theorem YZ {call:Nat→List AV→Option AV} {ops:Array Oper} {st:St} {T:Nat} {pos:String} {eN:Array Edge} (d:Nat) (x y:Operand) {a b:Int} (h1:st.ev x=.v (.int .i64 a)) (h2:st.ev y=.v (.int .i64 b)):bZ Tryz.prog call ops ⟨some d,.buildSlice 22 2 #[(0,x),(1,y)],T,pos,eN,none⟩ st =
 some ((st.new d (.row 3 1 2 (aK [a,b]))).put (some d) (.own d (st.aQ d))):=by
 rw[kU];simp[Kj,ze3,cD,h1,h2,AV.jL,Value.oneCell',gM,AV.cells,List.range,List.range.loop,aK,pE]
theorem Dv {call:Nat→List AV→Option AV} {ops:Array Oper} {st:St} {T:Nat} {pos:String} {eN:Array Edge} (d:Nat) (x y:Operand):bZ Tryz.prog call ops ⟨some d,.buildSlice 22 2 #[(0,x),(1,y)],T,pos,eN,none⟩ st =
 Kk (st.ev x) (fun a=>Kk (st.ev y) (fun b=>some ((st.new d (.row 3 1 2 (aK [a,b]))).put (some d) (.own d (st.aQ d)))) (bZ Tryz.prog call ops ⟨some d,.buildSlice 22 2 #[(0,x),(1,y)],T,pos,eN,none⟩ st))
  (bZ Tryz.prog call ops ⟨some d,.buildSlice 22 2 #[(0,x),(1,y)],T,pos,eN,none⟩ st):=by
 unfold Kk;split
 ·rename_i a h1;try dsimp only
  split
  ·rename_i b h2;exact YZ d x y h1 h2
  ·rfl
 ·rfl
def Fp (ns:List Node) (i:Int):Nat→List Int
 | 0=>[]
 | k+1=>if wY ns i k=true then Fp ns i k++[(k:Int)] else Fp ns i k
theorem Ub (ns:List Node) (i:Int):∀k,(Fp ns i k).length≤k
 | 0=>Nat.le_refl _
 | k+1=>by
   have:=Ub ns i k
   simp only[Fp];split
   ·simp;omega
   ·omega
theorem RI {ns:List Node} (hu:gZ ns) {i:Int} (i0:0≤i) (i1:i<ns.length):∀k:Nat,i<k→Fp ns i k≠[]
 | 0,h=>by omega
 | k+1,h=>by
   simp only[Fp];by_cases hk:i=k
   ·rw[if_pos (by unfold wY;rw[← hk];exact decide_eq_true (xT hu i0 i1))];simp
   ·have:=RI hu i0 i1 k (by omega)
    split
    ·simp
    ·exact this
theorem WM (ns:List Node) (i x:Int):∀k:Nat,x∈Fp ns i k↔(0≤x∧x<k)∧wY ns i x=true
 | 0=>by simp[Fp];intro h h';omega
 | k+1=>by
   have ih:=WM ns i x k
   simp only[Fp];split
   ·rename_i h;rw[List.mem_append,ih,List.mem_singleton];constructor
    ·rintro (⟨h1,h2⟩|rfl)
     ·exact⟨by omega,h2⟩
     ·exact⟨by omega,h⟩
    ·rintro⟨h1,h2⟩
     by_cases hk:x=k
     ·exact .inr hk
     ·exact .inl ⟨by omega,h2⟩
   ·rename_i h;rw[ih];constructor
    ·rintro⟨h1,h2⟩;exact⟨by omega,h2⟩
    ·rintro⟨h1,h2⟩
     by_cases hk:x=k
     ·subst hk;exact absurd h2 h
     ·exact⟨by omega,h2⟩
def aA1 (ns:List Node) (i:Int):AV:=.eE [.agg (cP ⟨(oJ ns i ns.length).1⟩),.sl (oJ ns i ns.length).2.length (aK (oJ ns i ns.length).2),.v (.int .i64 0)]
theorem ZA (ns:List Node) (i:Int):Flat (aA1 ns i):=.eE _ (lN (nJ _) (Pn _) (.v _))
theorem k34 (ns:List Node) (hu:gZ ns) (hn:(ns.length:Int)<1000000) (i:Int) (h:0≤i∧i<ns.length) (st:St) (d:Option Nat):aN (aC Tryz.prog) 34 [.agg (cP ⟨ns⟩),.v (.int .i64 i)] st d=some { dst:=d,val:=aA1 ns i }:=bI (bE (nJ _) (.v _)) (c34 ns hu hn i h.1 h.2) (ZA ns i)
theorem RJ {ns:List Node} (hu:gZ ns) {i:Int}:∀k:Nat,k≤ns.length→∀a:Int,0≤a→a<k→wY ns i a=true →
 0≤it (oJ ns i k).2 a∧it (oJ ns i k).2 a<(oJ ns i k).1.length∧nd (oJ ns i k).1 (it (oJ ns i k).2 a)={ nd ns a with up:=if a=i then -1 else it (oJ ns i k).2 (nd ns a).up }
 | 0,_,a,a0,a1,_=>by omega
 | k+1,hk,a,a0,a1,ha=>by
   have hl:=Dt ns i k
   have Vf:a≠i→0≤(nd ns a).up∧(nd ns a).up<a:=fun h=>by
    by_cases ha0:a=0
    ·subst ha0;rw[KA (by omega)] at ha;simp at ha;omega
    ·exact hu a (by omega) (by omega)
   by_cases hak:a<k
   ·obtain⟨h1,h2,h3⟩:=RJ hu k (by omega) a a0 hak ha
    simp only[oJ];split
    ·simp only
     rw[lZ a0 (by omega),Ib h1 h2,h3]
     refine⟨h1,by simp;omega, ?_⟩
     by_cases CK:a=i
     ·rw[if_pos CK,if_pos CK]
     ·obtain⟨u0,u1⟩:=Vf CK
      rw[if_neg CK,if_neg CK,lZ u0 (by omega)]
    ·simp only
     rw[lZ a0 (by omega),h3]
     refine⟨h1,h2, ?_⟩
     by_cases CK:a=i
     ·rw[if_pos CK,if_pos CK]
     ·obtain⟨u0,u1⟩:=Vf CK
      rw[if_neg CK,if_neg CK,lZ u0 (by omega)]
   ·have hak:a=k:=by omega
    subst hak;simp only[oJ,ha,if_true];rw[Cg (by omega),CJ rfl]
    refine⟨by omega,by simp<;>omega, ?_⟩
    by_cases CK:(k:Int)=i
    ·rw[if_pos CK,if_pos CK]
    ·obtain⟨u0,u1⟩:=Vf CK
     rw[if_neg CK,if_neg CK,lZ u0 (by omega)]
theorem Kl (ns:List Node) (i:Int):∀(d k:Nat) (a:Int),0≤a→a<k→it (oJ ns i (k+d)).2 a=it (oJ ns i k).2 a
 | 0,k,a,_,_=>rfl
 | d+1,k,a,a0,a1=>by
   have ih:=Kl ns i d k a a0 a1
   have hl:=Dt ns i (k+d)
   rw[← ih,← Nat.add_assoc];simp only[oJ];split
   ·simp only;rw[lZ a0 (by omega)]
   ·simp only;rw[lZ a0 (by omega)]
theorem aA2 {ns:List Node} {i:Int} {n:Nat} {k:Nat} (hk:k<n) (ha:wY ns i k=true):it (oJ ns i n).2 k=(oJ ns i k).1.length:=by
 obtain⟨d,rfl⟩:∃d,n=k+1+d:=⟨n-(k+1),by omega⟩
 rw[Kl ns i d (k+1) k (by omega) (by omega)]
 have hl:=Dt ns i k
 simp only[oJ,ha,if_true];rw[Cg (by omega)]
theorem H8 {ns:List Node} (hu:gZ ns) {i:Int} {n:Nat} (hn:n≤ns.length) {a b:Int} (a0:0≤a) (hab:a<b) (hb:b<n) (ha:wY ns i a=true) (nP:wY ns i b=true):it (oJ ns i n).2 a<it (oJ ns i n).2 b:=by
 obtain⟨k,rfl⟩:∃k:Nat,b=k:=⟨b.toNat,by omega⟩
 rw[aA2 (by omega) nP]
 obtain⟨d,rfl⟩:∃d,n=k+d:=⟨n-k,by omega⟩
 rw[Kl ns i d k a a0 hab];exact (RJ hu k (by omega) a a0 hab ha).2.1
theorem Mo (ns:List Node) (i:Int):∀(k:Nat) (m:Int),0≤m→m<(oJ ns i k).1.length→∃a:Int,0≤a∧a<k∧wY ns i a=true∧it (oJ ns i k).2 a=m
 | 0,m,m0,m1=>by simp[oJ] at m1;omega
 | k+1,m,m0,m1=>by
   have hl:=Dt ns i k
   simp only[oJ] at m1 ⊢;split at m1
   ·rename_i h;rw[if_pos h];simp only at m1 ⊢
    by_cases hm:m<(oJ ns i k).1.length
    ·obtain⟨a,a0,a1,ha,he⟩:=Mo ns i k m m0 hm
     exact⟨a,a0,by omega,ha,by rw[lZ a0 (by omega)];exact he⟩
    ·simp at m1
     exact⟨k,by omega,by omega,h,by rw[Cg (by omega)];omega⟩
   ·rename_i h;rw[if_neg h];simp only at m1 ⊢
    obtain⟨a,a0,a1,ha,he⟩:=Mo ns i k m m0 m1
    exact⟨a,a0,by omega,ha,by rw[lZ a0 (by omega)];exact he⟩
end Go.Ab.Tryz
section
namespace Go.Ab.Tryz
open Classical Go.Proofs Go.Ab
variable {ns:List Node} {i:Int}
theorem KB (hu:gZ ns) {a:Int} (ha:wY ns i a=true):0≤it (oJ ns i ns.length).2 a∧it (oJ ns i ns.length).2 a<(oJ ns i ns.length).1.length∧nd (oJ ns i ns.length).1 (it (oJ ns i ns.length).2 a)={ nd ns a with up:=if a=i then -1 else it (oJ ns i ns.length).2 (nd ns a).up }:=by
 have h:=(Vd hu ha).2
 exact RJ hu ns.length (Nat.le_refl _) a h.1 h.2 ha
theorem WN (hu:gZ ns) {a b:Int} (hab:a<b) (ha:wY ns i a=true) (hb:wY ns i b=true):it (oJ ns i ns.length).2 a<it (oJ ns i ns.length).2 b :=
 H8 hu (Nat.le_refl _) (Vd hu ha).2.1 hab (Vd hu hb).2.2 ha hb
theorem WO (hu:gZ ns) (hi:wY ns i i=true):it (oJ ns i ns.length).2 i=0:=by
 obtain⟨h1,h2,_⟩:=KB hu hi
 obtain⟨a,a0,a1,ha,he⟩:=Mo ns i ns.length 0 (Int.le_refl 0) (by omega)
 have:=H4 hu ha
 by_cases h:i=a
 ·rw[h] at he ⊢;rw[← h] at he ⊢;exact he
 ·have:=WN hu (show i<a by omega) hi ha
  omega
theorem aIJ (hu:gZ ns) {a:Int} (ha:wY ns i a=true) (h:a≠i):0<a∧(0≤(nd ns a).up∧(nd ns a).up<a)∧wY ns i (nd ns a).up=true:=by
 obtain⟨⟨i0,_⟩,a0,a1⟩:=Vd hu ha
 have:=H4 hu ha
 have hp:0<a:=by omega
 refine⟨hp,hu a hp a1, ?_⟩
 rw[← aEN hu a1 (by omega) i0];exact ha
theorem aA3 (hu:gZ ns) (hi:wY ns i i=true):gZ (oJ ns i ns.length).1:=by
 intro m m0 m1;obtain⟨a,a0,a1,ha,rfl⟩:=Mo ns i ns.length m (by omega) m1
 have CK:a≠i:=by rintro rfl;rw[WO hu hi] at m0;omega
 obtain⟨_,⟨u0,u1⟩,Vf⟩:=aIJ hu ha CK
 rw[(KB hu ha).2.2];simp only[if_neg CK];exact⟨(KB hu Vf).1,WN hu u1 Vf ha⟩
end Go.Ab.Tryz
end
namespace Go.Ab.Tryz
open Classical Go.Proofs Go.Ab
structure Vld (ns:List Node):Prop where
 ZB:0<ns.length
 aTY:ns.length≤4096
 KC:(nd ns 0).up=-1
 up:gZ ns
 par:∀i:Int,0<i→i<ns.length→(nd ns i).block.parent=(nd ns (nd ns i).up).block.root
 slot:∀i:Int,0<i→i<ns.length→(nd ns (nd ns i).up).block.slot<(nd ns i).block.slot
 roots:∀i j:Int,0≤i→i<j→j<ns.length→(nd ns i).block.root≠(nd ns j).block.root
 st:∀i:Int,0≤i→i<ns.length→RF (nd ns i).status=true
end Go.Ab.Tryz
namespace Go.Ab.Tryz
open Classical Go.Proofs Go.Ab
end Go.Ab.Tryz
namespace Go.Ab.Tryz
open Classical Go.Proofs Go.Ab
noncomputable def CL (st:St) (e:Option nD) (o:Nat):Option AV :=
 match e with
 | some (.cells cs)=>(cE (cs.map (wW st))).map fun ds=>.ip ds o
 | _=>none
theorem Ps (st:St) (f s g o:Nat):fO st (.Ev f [.ptr s g o])=(CL st (st.heap s g) o).map fun y=>.Ev f [y]:=by
 have hn:¬Flat (.Ev f [.ptr s g o]):=by intro h;cases h with|Ev _ _ h=>exact Mp s g o (h _ (by simp))
 unfold fO CL;rw[if_neg hn];simp only[List.map_cons,List.map_nil];unfold cY;rw[if_neg (Mp s g o)];simp only
 cases st.heap s g with
 | none=>rfl
 | some e=>cases e with
   | cells cs =>
     simp only
     cases cE (cs.map (wW st))<;>rfl
   | _=>rfl
theorem Vg (st:St) {cs:List AV} (h:∀c∈cs,Flat c) (o:Nat):CL st (some (.cells cs)) o=some (.ip cs o):=by
 unfold CL;simp only[Rw h,Option.map_some]
end Go.Ab.Tryz
namespace Go.Ab.Tryz
open Classical Go.Proofs Go.Ab
end Go.Ab.Tryz
namespace Go.Ab.Tryz
open Classical Go.Proofs Go.Ab
noncomputable def aER (l:List Int):AV:=if l=[] then .v (.slice none 0 0) else .uniq 3 1 l.length (aK l)
theorem Vh:aER []=.v (.slice none 0 0):=if_pos rfl
theorem WQ {l:List Int} (h:l≠[]):aER l=.uniq 3 1 l.length (aK l):=if_neg h
def Rx (ns:List Node) (i:Int):Nat→List Int
 | 0=>[]
 | k+1=>if (nd ns k).up=i then Rx ns i k++[(k:Int)] else Rx ns i k
theorem Uc (ns:List Node) (i:Int):∀k,(Rx ns i k).length≤k
 | 0=>Nat.le_refl _
 | k+1=>by
   have:=Uc ns i k
   simp only[Rx];split
   ·simp;omega
   ·omega
theorem KD {ns:List Node} {i:Int}:∀k:Nat,(∀j:Int,0≤j→j<k→(nd ns j).up≠i)→Rx ns i k=[]
 | 0,_=>rfl
 | k+1,h=>by
   simp only[Rx];rw[if_neg (h k (by omega) (by omega))]
   exact KD k fun j j0 j1=>h j j0 (by omega)
theorem aIK {ns:List Node} (hu:gZ ns) (hr:(nd ns 0).up=-1) {j:Int} (j0:0≤j) (j1:j<ns.length):(nd ns j).up<ns.length:=by
 by_cases h:j=0
 ·subst h;omega
 ·have:=hu j (by omega) j1;omega
def vV (ns:List Node) (i:Int):List Int:=if i<0 then [] else Rx ns i ns.length
theorem KE {ns:List Node} (hu:gZ ns) (hr:(nd ns 0).up=-1) {i:Int} (h:¬(0≤i∧i<ns.length)):vV ns i=[]:=by
 unfold vV;split
 ·rfl
 ·exact KD _ fun j j0 j1=>by have:=aIK hu hr j0 j1;omega
theorem aIL (ns:List Node) (hu:gZ ns) (hr:(nd ns 0).up=-1) (hn:(ns.length:Int)<1000000) (i:Int):aC Tryz.prog 245 [.agg (cP ⟨ns⟩),.v (.int .i64 i)]=some (aER (vV ns i)):=by
 rw[cL Tryz.func245 rfl aIM rfl];by_cases hm:0≤i∧i<ns.length
 ·have hd:(decide (0≤i) && decide (i<ns.length))=true:=by simp[hm.1,hm.2]
  rw[show vV ns i=Rx ns i ns.length from if_neg (by omega)]
  simp only[ZZ,seval];refine mH (fun n st=>∃k:Nat,(st.env 1=.v (.int .i64 i)∧st.env 2=.ptr 2 0 0∧st.heap 2 0=some (.cells (cP ⟨ns⟩))∧st.env 6=.v (.int .i64 k)) ∧
   ((Rx ns i k=[]∧st.env 5=.v (.slice none 0 0))∨(Rx ns i k≠[]∧∃g,st.env 5=.own 30 g∧g<st.aQ 30∧st.heap 30 g=some (.row 3 1 (Rx ns i k).length (aK (Rx ns i k)))))∧k≤ns.length∧n=ns.length-k)
   (fun e st=>e=.exit 0∧((Rx ns i ns.length=[]∧st.env 5=.v (.slice none 0 0))∨(Rx ns i ns.length≠[]∧∃g,st.env 5=.own 30 g∧g<st.aQ 30∧st.heap 30 g=some (.row 3 1 (Rx ns i ns.length).length (aK (Rx ns i ns.length)))))) ns.length ?step ?start ?rest
  case step =>
   rintro n st ⟨k,hI,h5,hk,Iw⟩
   have hl:=Uc ns i k
   have Fz:((Rx ns i k).length:Int)<1000000:=by omega
   by_cases bB:(k:Int)<ns.length
   ·have hw:IntKind.i64.wrap ((k:Int)+1)=((k+1:Nat):Int):=by rw[Ix _ (by omega) (by omega)];omega
    have q0:(0:Int)≤k:=by omega
    by_cases hu:(nd ns k).up=i
    ·have hq:((nd ns k).up == i)=true:=by simp[hu]
     have hs:Rx ns i (k+1)=Rx ns i k++[(k:Int)]:=by simp only[Rx,hu,if_true]
     rcases h5 with ⟨hy,h5⟩|⟨hy,g,h5⟩
     ·rw[hy] at hs;apply oN (ns.length-(k+1))
      ·simp only[ZZ,seval,hI,h5,bB,hw,q0,hq,QO,hd];rfl
      ·exact⟨k+1,by simp only[EV,seval,hI],.inr ⟨by rw[hs];simp,_,by simp only[EV,seval]<;>rfl,(by simp only[EV,seval]<;>omega),(by rw[hs];simp only[EV,seval]<;>rfl)⟩,by omega,rfl⟩
     ·apply oN (ns.length-(k+1))
      ·simp only[ZZ,seval,hI,h5,Fz,bB,hw,q0,hq,QO,hd];rfl
      ·exact⟨k+1,by simp only[EV,seval,hI],.inr ⟨by rw[hs];simp,_,by simp only[EV,seval]<;>rfl,(by simp only[EV,seval]<;>omega),(by rw[hs];simp only[EV,seval]<;>rfl)⟩,by omega,rfl⟩
    ·have hq:((nd ns k).up == i)=false:=by simp[hu]
     have hs:Rx ns i (k+1)=Rx ns i k:=by simp only[Rx,hu,if_false]
     apply oN (ns.length-(k+1))
     ·simp only[ZZ,seval,hI,bB,hw,q0,hq,QO,hd];rfl
     ·exact⟨k+1,by simp only[EV,seval,hI],by rw[hs];simpa only[EV,seval] using h5,by omega,rfl⟩
   ·obtain rfl:k=ns.length:=by omega
    apply oT (.exit 0)
    ·simp only[ZZ,seval,hI,bB];rfl
    ·exact⟨rfl,by simpa only[EV,seval] using h5⟩
  case start=>exact⟨0,(by simp only[EV,seval]),.inl ⟨rfl,(by simp only[EV,seval])⟩,by omega,rfl⟩
  case rest =>
   rintro e st ⟨rfl,⟨hy,h5⟩|⟨hy,g,h5,hg,zT⟩⟩
   ·rw[hy,Vh];simp only[ZZ,seval,h5];exact bT rfl (by simp only[EV,seval]) (.v _)
   ·rw[WQ hy];simp only[ZZ,seval,h5,zT];exact sF rfl (by simp only[EV,seval];rfl) (by simp only[EV,seval,zT]) (gD _)
 ·have hd:(decide (0≤i) && decide (i<ns.length))=false:=by
   rw[← Bool.not_eq_true];simpa using hm
  rw[KE hu hr hm,Vh];by_cases h0:(0:Int)<ns.length
  ·simp only[ZZ,seval,Cf,QO,hd,h0];exact bT rfl (by simp only[EV,seval]) (.v _)
  ·simp only[ZZ,seval,Cf,QO,hd,h0];exact bT rfl (by simp only[EV,seval]) (.v _)
theorem aIN (ns:List Node) (hu:gZ ns) (hr:(nd ns 0).up=-1) (hn:(ns.length:Int)<1000000) (i:Int) (h:vV ns i≠[]) (st:St) (d:Nat):aN (aC Tryz.prog) 245 [.agg (cP ⟨ns⟩),.v (.int .i64 i)] st (some d)=some { dst:=some d,val:=.own d (st.aQ d),new:=some (d,[.row 3 1 (vV ns i).length (aK (vV ns i))])}:=by
 have hc:=aIL ns hu hr hn i
 rw[WQ h] at hc;exact jB (bE (nJ _) (.v _)) hc
theorem aDF (ns:List Node) (hu:gZ ns) (hr:(nd ns 0).up=-1) (hn:(ns.length:Int)<1000000) (i:Int) (h:vV ns i=[]) (st:St) (d:Option Nat):aN (aC Tryz.prog) 245 [.agg (cP ⟨ns⟩),.v (.int .i64 i)] st d=some { dst:=d,val:=.v (.slice none 0 0)}:=by
 have hc:=aIL ns hu hr hn i
 rw[h,Vh] at hc;exact bI (bE (nJ _) (.v _)) hc (.v _)
end Go.Ab.Tryz
namespace Go.Ab.Tryz
open Classical Go.Proofs Go.Ab
end Go.Ab.Tryz
namespace Go.Ab.Tryz
open Classical Go.Proofs Go.Ab
theorem Mq [Ext] {P:Program} {f:Nat} {fn:Func} {st:St} {e:Ex} {r:ResultVar} {x y:AV} (hk:Ext.qB f=true) (he:e=.ret∨e=.normal) (hr:fn.results.toList=[r]) (h1:bJ P st r=some x) (hn:(lP x).Nodup) (hy:Cb st x=some y):zU P f fn (e,st)=some y:=by
 have h:jN P f fn st=some y:=by
  unfold jN;rw[hk,if_pos rfl];unfold Md;rw[hr];simp only[Ah,h1,cD,if_pos hn,hy]
 rcases he with rfl|rfl<;>exact h
theorem KF [Ext] {P:Program} {f:Nat} {fn:Func} {st:St} {e:Ex} {r1 r2:ResultVar} {x1 x2 y:AV} (hk:Ext.qB f=true) (he:e=.ret∨e=.normal) (hr:fn.results.toList=[r1,r2]) (h1:bJ P st r1=some x1) (h2:bJ P st r2=some x2)
 (hn:(lP (.eE [x1,x2])).Nodup) (hy:Cb st (.eE [x1,x2])=some y):zU P f fn (e,st)=some y:=by
 have h:jN P f fn st=some y:=by
  unfold jN;rw[hk,if_pos rfl];unfold Md;rw[hr];simp only[List.map_cons,List.map_nil,Ah,h1,h2,cD,cE,Option.map_some,if_pos hn,hy]
 rcases he with rfl|rfl<;>exact h
theorem CM {st:St} {s g e sz n:Nat} {cs:List AV} (h:st.heap s g=some (.row e sz n cs)) (hf:∀c∈cs,Flat c):rP st (.agg [.own s g])=some (.agg [.uniq e sz n cs]):=by
 simp only[rP,List.map_cons,List.map_nil,kE,if_neg (mT s g),h,if_pos hf,cE,Option.map_some]
theorem ZD (st:St):rP st (.agg [.v (.slice none 0 0)])=some (.agg [.v (.slice none 0 0)]):=by
 simp only[rP,List.map_cons,List.map_nil,kE,if_pos (Flat.v _),cE,Option.map_some]
theorem WR (st:St) (x:Value):rP st (.v x)=some (.v x):=by simp only[rP,kE,if_pos (Flat.v x)]
theorem CN {st:St} {a b x y:AV} (h1:rP st a=some x) (h2:rP st b=some y):Cb st (.eE [a,b])=some (.eE [x,y]):=by
 simp only[Cb,List.map_cons,List.map_nil,h1,h2,cE,Option.map_some]
theorem ZE {st:St} {cs:List AV} {x:AV} (h1:rP st (.agg cs)=some x):Cb st (.agg cs)=some x:=h1
theorem Jn (e sz n:Nat) (cs:List AV):¬Flat (.uniq e sz n cs):=by intro h;cases h
theorem ZF {e sz n:Nat} {cs:List AV} {st:St} {d:Nat}:iW (.agg [.uniq e sz n cs]) st (some d)=some { dst:=some d,val:=.agg [.own d (st.aQ d)],new:=some (d,[.row e sz n cs])}:=by
 have hn:¬Flat (.agg [.uniq e sz n cs]):=by intro h;cases h with|agg _ h=>exact Jn e sz n cs (h _ (by simp))
 unfold iW;rw[if_neg hn];rfl
theorem ZH {e sz n:Nat} {cs:List AV} {x:Value} {st:St} {d:Nat}:iW (.eE [.agg [.uniq e sz n cs],.v x]) st (some d)=some { dst:=some d,val:=.eE [.agg [.own d (st.aQ d)],.v x],new:=some (d,[.row e sz n cs])}:=by
 have hn:¬Flat (.eE [.agg [.uniq e sz n cs],.v x]):=by
  intro h;cases h with
  | eE _ h =>
    have:=h (.agg [.uniq e sz n cs]) (by simp)
    cases this with
    | agg _ h=>exact Jn e sz n cs (h _ (by simp))
 unfold iW;rw[if_neg hn];rfl
theorem aA4 {call:Nat→List AV→Option AV} {g:Nat} {args:List AV} {d e sz n:Nat} {cs:List AV} {st:St} (hf:∀x∈args,Flat x) (h:call g args=some (.agg [.uniq e sz n cs])):aN call g args st (some d)=some { dst:=some d,val:=.agg [.own d (st.aQ d)],new:=some (d,[.row e sz n cs])}:=by
 unfold aN;rw[if_pos hf,h];exact ZF
theorem aIO {call:Nat→List AV→Option AV} {g:Nat} {xs:List AV} {d e sz n:Nat} {cs:List AV} {x:Value} {fl:Bool} {st:St} (h:call g xs=some (.eE [.agg [.uniq e sz n cs],.v x])) (hm:∀c∈cs,fM c):tQ call g (some xs) fl st (some d)=some { dst:=some d,val:=.eE [.agg [.own d (st.aQ d)],.v x],new:=some (d,[.row e sz n cs])}:=by
 have WS:Uq (.eE [.agg [.uniq e sz n cs],.v x]):=by
  intro y hy;rcases List.mem_cons.1 hy with rfl|hy
  ·intro c hc;simp at hc
   subst hc;exact hm
  ·simp at hy
   subst hy;exact .v _
 unfold tQ;simp only[cU,h,WS,or_true,if_true];exact ZH
theorem aIP {call:Nat→List AV→Option AV} {g:Nat} {xs:List AV} {x y:Value} {fl:Bool} {st:St} {d:Option Nat} (h:call g xs=some (.eE [.agg [.v y],.v x])):tQ call g (some xs) fl st d=some { dst:=d,val:=.eE [.agg [.v y],.v x]}:=by
 have hf:∀z∈[AV.agg [.v y],.v x],Flat z:=bE (.agg _ (cO (.v _))) (.v _)
 refine ZI h ?_ (.eE _ hf)
 intro z hz;rcases List.mem_cons.1 hz with rfl|hz
 ·intro c hc;simp at hc;subst hc;exact .v _
 ·simp at hz;subst hz;exact .v _
theorem WU {z:Nat} {α:Type} (f:α→List AV) (hf:∀x,(f x).length=z):∀(l:List α) (i o:Nat) (hi:i<l.length),o<z→(l.flatMap f)[i * z+o]? = (f l[i])[o]?
 | [],i,o,hi,_=>by simp at hi
 | a :: l,0,o,_,ho=>by
   simp only[List.flatMap_cons,Nat.zero_mul,Nat.zero_add,List.getElem_cons_zero];rw[List.getElem?_append_left (by rw[hf];exact ho)]
 | a :: l,i+1,o,hi,ho=>by
   have ih:=WU f hf l i o (by simpa using hi) ho
   simp only[List.flatMap_cons,List.getElem_cons_succ];rw[List.getElem?_append_right (by rw[hf,Nat.succ_mul];omega),hf,show (i+1) * z+o-z=i * z+o by rw[Nat.succ_mul];omega]
   exact ih
theorem WV {z:Nat} {α:Type} (f:α→List AV) (hf:∀x,(f x).length=z) (o e:Nat) (xs:List AV) (hoe:o≤e) (he:e≤z):∀(l:List α) (i:Nat) (hi:i<l.length) (y:α),dJ (f l[i]) o xs e=f y→dJ (l.flatMap f) (i * z+o) xs (i * z+e)=(l.set i y).flatMap f
 | [],i,hi,_,_=>by simp at hi
 | a :: l,0,_,y,h=>by
   simp only[List.flatMap_cons,Nat.zero_mul,Nat.zero_add,List.set_cons_zero,List.getElem_cons_zero] at h ⊢;rw[← h];unfold dJ;rw[List.take_append_of_le_length (by rw[hf];omega),List.drop_append_of_le_length (by rw[hf];omega)]
   simp
 | a :: l,i+1,hi,y,h=>by
   have ih:=WV f hf o e xs hoe he l i (by simpa using hi) y (by simpa using h)
   simp only[List.flatMap_cons,List.set_cons_succ];rw[← ih];unfold dJ;have h1:(i+1) * z+o=z+(i * z+o):=by rw[Nat.succ_mul];omega
   have h2:(i+1) * z+e=z+(i * z+e):=by rw[Nat.succ_mul];omega
   rw[h1,h2,List.take_append,List.drop_append,List.take_of_length_le (by rw[hf];omega),List.drop_of_length_le (by rw[hf];omega),hf,Nat.add_sub_cancel_left,Nat.add_sub_cancel_left]
   simp
theorem ZJ {l:List Bool} {xs:List AV} (h:gY l xs xs):∀c∈xs,fM c:=by
 obtain⟨us,vs,rfl,_,_⟩:=Cd _ _ _ h
 intro c hc;obtain⟨x,_,rfl⟩:=List.mem_map.1 hc
 exact .v _
theorem Vi (l:List Node):∀c∈cC l,fM c:=fun c hc=>by
 obtain⟨n,_,h⟩:=List.mem_flatMap.1 hc
 exact ZJ (Vj n n) c h
theorem ZK {l:List Node} {i:Int} (h0:0≤i) (h1:i<l.length) (o:Nat) (ho:o<240):(cC l)[i.toNat * 240+o]? = (fJ (nd l i))[o]?:=by
 obtain⟨h,e⟩:=Km h0 h1
 rw[e];exact WU fJ uT l i.toNat o h ho
theorem ZL {l:List Node} {i:Int} (h0:0≤i) (h1:i<l.length) {o e:Nat} {xs:List AV} (hoe:o≤e) (he:e≤240) {y:Node} (h:dJ (fJ (nd l i)) o xs e=fJ y):dJ (cC l) (i.toNat * 240+o) xs (i.toNat * 240+e)=cC (l.set i.toNat y):=by
 obtain⟨hi,e'⟩:=Km h0 h1
 rw[e'] at h;exact WV fJ uT o e xs hoe he l i.toNat hi y h
def Vk (n:Node) (s:Int):Node:={ n with status:=s }
def setAt (ns:List Node) (i s:Int):List Node:=ns.set i.toNat (Vk (nd ns i) s)
theorem RK {l:List Node} {i s:Int} (h0:0≤i) (h1:i<l.length):dJ (cC l) (i.toNat * 240+239) [.v (.int .i64 s)] (i.toNat * 240+240)=cC (setAt l i s) :=
 ZL h0 h1 (by decide) (by decide) (Gi (nd l i) _)
theorem RL {l:List Node} {i:Int} (h0:0≤i) (h1:i<l.length):(cC l)[i.toNat * 240+239]? = some (.v (.int .i64 (nd l i).status)):=by
 rw[ZK h0 h1 239 (by decide)]
 exact Ez (nd l i)
theorem Ch (ns:List Node) (i s:Int):(setAt ns i s).length=ns.length:=by simp[setAt]
def CO (to never:Int):List Int→List Node→Option (List Node)
 | [],ns=>some ns
 | i :: l,ns=>if (nd ns i).status=never then none else CO to never l (setAt ns i to)
theorem EL {to never:Int}:∀(l:List Int) (ns r:List Node),CO to never l ns=some r→r.length=ns.length
 | [],ns,r,h=>by simp only[CO,Option.some.injEq] at h;rw[h]
 | i :: l,ns,r,h=>by
   simp only[CO] at h;split at h
   ·cases h
   ·rw[EL l _ r h,Ch]
theorem RM {l:List Node} (h:0<l.length):cC l≠[]:=by
 intro he;have:=congrArg List.length he
 rw[Kn] at this;simp only[List.length_nil] at this;omega
theorem aNB (l:List Node) (h0:0<l.length) (hn:(l.length:Int)<1000000):aC Tryz.prog 192 [.sl l.length (cC l)]=some (.uniq 76 240 l.length (cC l)):=by
 rw[cL Tryz.func192 rfl aIQ rfl];have gT:=RM h0
 have ha:=fun s g=>Ic (e:=76) (sz:=240) (by_:=352) (s:=s) (g:=g) (n:=l.length) (cs:=cC l) (by simp) (by omega) (by unfold maxLen;omega)
 simp only[ZZ,seval,gT,ha];exact sF rfl (by simp only[EV,seval];rfl) (by simp only[EV,seval]) (lB _)
theorem aNC (l:List Node) (h0:0<l.length) (hn:(l.length:Int)<1000000) (st:St) (d:Nat):aN (aC Tryz.prog) 192 [.sl l.length (cC l)] st (some d)=some { dst:=some d,val:=.own d (st.aQ d),new:=some (d,[.row 76 240 l.length (cC l)])}:=jB (cO (.sl _ _ (lB l))) (aNB l h0 hn)
theorem aND (ns:List Node) (h0:0<ns.length) (hn:(ns.length:Int)<1000000):aC Tryz.prog 165 [.agg (cP ⟨ns⟩)]=some (.agg [.uniq 76 240 ns.length (cC ns)]):=by
 rw[cL Tryz.func165 rfl aIR rfl];have hK:=aNC ns h0 hn
 simp only[ZZ,seval,hK];refine Mq rfl (.inl rfl) rfl (x:=.agg [.own 5 0]) (by simp only[bJ,ZZ,seval]) (by simp[lP,iZ,gH]) (ZE (CM (by simp only[EV,seval]) (lB _)))
theorem aNE (ns:List Node) (h0:0<ns.length) (hn:(ns.length:Int)<1000000) (st:St) (d:Nat):aN (aC Tryz.prog) 165 [.agg (cP ⟨ns⟩)] st (some d)=some { dst:=some d,val:=.agg [.own d (st.aQ d)],new:=some (d,[.row 76 240 ns.length (cC ns)])}:=aA4 (cO (nJ _)) (aND ns h0 hn)
theorem aA5 {l:List Int} {k:Nat} (h:k<l.length):l.drop k=it l k :: l.drop (k+1):=by
 rw[List.drop_eq_getElem_cons h];simp[it,h]
theorem aIS (s g:Nat) (x:Value):(lP (.eE [.agg [.own s g],.v x])).Nodup:=by simp[lP,iZ,gH]
theorem aIT (y x:Value):(lP (.eE [.agg [.v y],.v x])).Nodup:=by simp[lP,iZ,gH]
def Zy (e:Int):AV:=.eE [.agg [.v (.slice none 0 0)],.v (.int .i64 e)]
def chS (o:Option (List Node)):AV :=
 match o with
 | none=>.eE [.agg [.v (.slice none 0 0)],.v (.bool false)]
 | some r=>.eE [.agg [.uniq 76 240 r.length (cC r)],.v (.bool true)]
theorem aIU (ns:List Node) (h0:0<ns.length) (hn:(ns.length:Int)<1000000) (l:List Int) (hl:(l.length:Int)<1000000) (hm:∀x∈l,0≤x∧x<ns.length) (to never:Int) :
 aC Tryz.prog 247 [.agg (cP ⟨ns⟩),.sl l.length (aK l),.v (.int .i64 to),.v (.int .i64 never)]=some (chS (CO to never l ns)):=by
 rw[cL Tryz.func247 rfl aIV rfl];simp only[ZZ,seval,hn];refine mH (fun n st=>∃(k:Nat) (cur:List Node),(st.env 1=.sl l.length (aK l)∧st.env 2=.v (.int .i64 to)∧st.env 3=.v (.int .i64 never)∧st.env 8=.ptr 8 0 0∧st.heap 8 0=some (.cells [.v (.slice none 0 0)])∧st.env 10=.ptr 10 0 0∧st.heap 10 0=some (.cells [.own 14 0])∧st.heap 14 0=some (.row 76 240 cur.length (cC cur))∧st.env 11=.v (.int .i64 k))∧cur.length=ns.length∧CO to never l ns=CO to never (l.drop k) cur∧k≤l.length∧n=l.length-k)
  (fun e st=>(e=.ret∧CO to never l ns=none∧st.env 8=.ptr 8 0 0∧st.heap 8 0=some (.cells [.v (.slice none 0 0)])∧st.env 9=.v (.bool false))∨(e=.exit 0∧∃r,CO to never l ns=some r∧st.env 8=.ptr 8 0 0∧st.heap 8 0=some (.cells [.v (.slice none 0 0)])∧st.env 10=.ptr 10 0 0∧st.heap 10 0=some (.cells [.own 14 0])∧st.heap 14 0=some (.row 76 240 r.length (cC r)))) l.length ?step ?start ?rest
 case step =>
  rintro n st ⟨k,cur,hI,Bg,hc,hk,Iw⟩
  by_cases bB:(k:Int)<l.length
  ·have q0:(0:Int)≤k:=by omega
   have hw:IntKind.i64.wrap ((k:Int)+1)=((k+1:Nat):Int):=by rw[Ix _ (by omega) (by omega)];omega
   obtain⟨x0,x1⟩:=hm _ (Ds q0 bB)
   have x2:it l k<cur.length:=by omega
   rw[aA5 (by omega)] at hc
   simp only[CO] at hc;have hg:=RL x0 x2
   by_cases hs:(nd cur (it l k)).status=never
   ·rw[if_pos hs] at hc;have hb:((nd cur (it l k)).status == never)=true:=by simp[hs]
    apply oT (.ret)
    ·simp only[ZZ,seval,hI,bB,q0,x0,x2,hg,hb];rfl
    ·exact .inl ⟨rfl,hc,by simp only[EV,seval,hI],by simp only[EV,seval,hI],by simp only[EV,seval,hI]⟩
   ·rw[if_neg hs] at hc;have hb:((nd cur (it l k)).status == never)=false:=by simp[hs]
    have hu:=RK (s:=to) x0 x2
    have hle:(it l k).toNat * 240+239+1≤cur.length * 240:=by
     have:((it l k).toNat+1) * 240≤cur.length * 240:=Nat.mul_le_mul_right _ (by omega)
     omega
    have hle2:(it l k).toNat * 240+240≤cur.length * 240:=by omega
    apply oN (l.length-(k+1))
    ·simp only[ZZ,seval,hI,bB,q0,x0,x2,hg,hb,hu,hle,hle2,hw];rfl
    ·exact⟨k+1,setAt cur (it l k) to,by simp only[EV,seval,hI,Ch],by rw[Ch];exact Bg,hc,by omega,rfl⟩
  ·obtain rfl:k=l.length:=by omega
   rw[List.drop_length] at hc;apply oT (.exit 0)
   ·simp only[ZZ,seval,hI,bB];rfl
   ·exact .inr ⟨rfl,cur,hc,by simp only[EV,seval,hI]⟩
 case start=>exact⟨0,ns,by simp only[EV,seval]<;>rfl,rfl,rfl,by omega,by omega⟩
 case rest =>
  rintro e st (⟨rfl,hc,hI⟩|⟨rfl,r,hc,hI⟩)
  ·rw[hc];simp only[ZZ,seval];exact KF rfl (.inl rfl) rfl (x1:=.agg [.v (.slice none 0 0)]) (x2:=.v (.bool false)) (by simp only[bJ,ZZ,seval,hI]) (by simp only[bJ,ZZ,seval,hI]) (aIT _ _) (CN (ZD _) (WR _ _))
  ·rw[hc];simp only[ZZ,seval,hI];exact KF rfl (.inl rfl) rfl (x1:=.agg [.own 14 0]) (x2:=.v (.bool true)) (by simp only[bJ,ZZ,seval,hI]) (by simp only[bJ,ZZ,seval,hI]) (aIS _ _ _) (CN (CM (by simp only[EV,seval,hI]) (lB _)) (WR _ _))
theorem EM {ns:List Node} (hu:gZ ns) {c:Int} (c0:0≤c) (c1:c<ns.length):0<(path ns c).length:=List.length_pos_iff.2 fun h=>by
 have:=xT hu c0 c1
 rw[h] at this;cases this
theorem ZM {ns:List Node} (hu:gZ ns) {c:Int} (c0:0≤c) (c1:c<ns.length):it (path ns c) ((path ns c).length-1:Int)=c:=by
 by_cases h:c=0
 ·subst h;rw[qV (by omega)]
  rfl
 ·rw[qW hu (by omega) c1]
  exact Cg (by simp)
theorem c64 (ns:List Node) (hu:gZ ns) (hn:(ns.length:Int)<1000000) (i:Int):aC Tryz.prog 64 [.agg (cP ⟨ns⟩),.v (.int .i64 i)]=some (if Fp ns i ns.length=[] then .v (.slice none 0 0) else .uniq 3 1 (Fp ns i ns.length).length (aK (Fp ns i ns.length))):=by
 rw[cL Tryz.func64 rfl aNF rfl];have h41:=sS ns hu hn
 simp only[ZZ,seval];refine mH (fun n st=>∃k:Nat,st.env 1=.v (.int .i64 i)∧st.env 2=.ptr 2 0 0∧st.heap 2 0=some (.cells (cP ⟨ns⟩))∧st.env 6=.v (.int .i64 k) ∧
  ((Fp ns i k=[]∧st.env 5=.v (.slice none 0 0))∨(Fp ns i k≠[]∧∃g,st.env 5=.own 21 g∧g<st.aQ 21∧st.heap 21 g=some (.row 3 1 (Fp ns i k).length (aK (Fp ns i k)))))∧k≤ns.length∧n=ns.length-k)
  (fun e st=>e=.exit 0∧((Fp ns i ns.length=[]∧st.env 5=.v (.slice none 0 0))∨(Fp ns i ns.length≠[]∧∃g,st.env 5=.own 21 g∧g<st.aQ 21∧st.heap 21 g=some (.row 3 1 (Fp ns i ns.length).length (aK (Fp ns i ns.length)))))) ns.length ?step ?start ?rest
 case step =>
  rintro n st ⟨k,h1,h2,tG,h6,h5,hk,Iw⟩
  have hdl:=Ub ns i k
  have hdl':((Fp ns i k).length:Int)<1000000:=by omega
  by_cases bB:(k:Int)<ns.length
  ·have hw:IntKind.i64.wrap ((k:Int)+1)=((k+1:Nat):Int):=by rw[Ix _ (by omega) (by omega)];omega
   cases ha:wY ns i k
   ·have hs:Fp ns i (k+1)=Fp ns i k:=by simp only[Fp,ha,Bool.false_eq_true,if_false]
    rcases h5 with ⟨hy,h5⟩|⟨hy,g,h5,hg,zT⟩
    ·apply oN (ns.length-(k+1))
     ·simp only[ZZ,seval,h1,h2,tG,h6,h5,bB,hw,h41,ha];rfl
     ·exact⟨k+1,by simp only[EV,seval,h1],by simp only[EV,seval,h2],by simp only[EV,seval,tG],(by simp only[EV,seval]),.inl ⟨by rw[hs];exact hy,by simp only[EV,seval,h5]⟩,by omega,rfl⟩
    ·apply oN (ns.length-(k+1))
     ·simp only[ZZ,seval,h1,h2,tG,h6,h5,zT,bB,hw,h41,ha];rfl
     ·exact⟨k+1,by simp only[EV,seval,h1],by simp only[EV,seval,h2],by simp only[EV,seval,tG],(by simp only[EV,seval]),.inr ⟨by rw[hs];exact hy,g,by simp only[EV,seval,h5],(by simp only[EV,seval]<;>omega),(by rw[hs];simp only[EV,seval,zT])⟩,by omega,rfl⟩
   ·have hs:Fp ns i (k+1)=Fp ns i k++[(k:Int)]:=by simp only[Fp,ha,if_true]
    rcases h5 with ⟨hy,h5⟩|⟨hy,g,h5,hg,zT⟩
    ·rw[hy] at hs;apply oN (ns.length-(k+1))
     ·simp only[ZZ,seval,h1,h2,tG,h6,h5,bB,hw,h41,ha];rfl
     ·exact⟨k+1,by simp only[EV,seval,h1],by simp only[EV,seval,h2],by simp only[EV,seval,tG],(by simp only[EV,seval]),.inr ⟨by rw[hs];simp,_,by simp only[EV,seval]<;>rfl,(by simp only[EV,seval]<;>omega),(by rw[hs];simp only[EV,seval]<;>rfl)⟩,by omega,rfl⟩
    ·apply oN (ns.length-(k+1))
     ·simp only[ZZ,seval,h1,h2,tG,h6,h5,zT,hdl',bB,hw,h41,ha];rfl
     ·exact⟨k+1,by simp only[EV,seval,h1],by simp only[EV,seval,h2],by simp only[EV,seval,tG],(by simp only[EV,seval]),.inr ⟨by rw[hs];simp,_,by simp only[EV,seval]<;>rfl,(by simp only[EV,seval]<;>omega),(by rw[hs];simp only[EV,seval]<;>rfl)⟩,by omega,rfl⟩
  ·obtain rfl:k=ns.length:=by omega
   apply oT (.exit 0)
   ·simp only[ZZ,seval,h2,tG,h6,bB];rfl
   ·exact⟨rfl,by simpa only[EV,seval] using h5⟩
 case start=>exact⟨0,(by simp only[EV,seval]),(by simp only[EV,seval]),(by simp only[EV,seval]),(by simp only[EV,seval]),.inl ⟨rfl,(by simp only[EV,seval])⟩,by omega,rfl⟩
 case rest =>
  rintro e st ⟨rfl,⟨hy,h5⟩|⟨hy,g,h5,hg,zT⟩⟩
  ·rw[if_pos hy];simp only[ZZ,seval,h5];exact bT rfl (by simp only[EV,seval]) (.v _)
  ·rw[if_neg hy];simp only[ZZ,seval,h5,zT];exact sF rfl (by simp only[EV,seval];rfl) (by simp only[EV,seval,zT]) (gD _)
theorem k64 (ns:List Node) (hu:gZ ns) (hn:(ns.length:Int)<1000000) (i:Int) (h:Fp ns i ns.length≠[]) (st:St) (d:Nat):aN (aC Tryz.prog) 64 [.agg (cP ⟨ns⟩),.v (.int .i64 i)] st (some d)=some { dst:=some d,val:=.own d (st.aQ d),new:=some (d,[.row 3 1 (Fp ns i ns.length).length (aK (Fp ns i ns.length))])}:=by
 have hc:=c64 ns hu hn i
 rw[if_neg h] at hc;exact jB (bE (nJ _) (.v _)) hc
end Go.Ab.Tryz
namespace Go.Ab.Tryz
open Classical Go.Proofs Go.Ab
end Go.Ab.Tryz
namespace Go.Ab.Tryz
open Classical Go.Proofs Go.Ab
theorem aA6 (args:List AV) (st:St) (d:Option Nat):aN (aC Tryz.prog) 247 args st d=tQ (aC Tryz.prog) 247 (cE (args.map (fO st))) (decide (∀x∈args,Flat x)) st d:=mU _ _ _ _ _
theorem ZN:Flat (.agg [.v (.slice none 0 0)]):=.agg _ (cO (.v _))
theorem uU (e:Int):Flat (Zy e):=.eE _ (bE ZN (.v _))
def stA (o:Option (List Node)):AV :=
 match o with
 | none=>Zy 21
 | some r=>.eE [.agg (cP ⟨r⟩),.v (.int .i64 0)]
theorem KG (o:Option (List Node)):Flat (stA o):=by
 cases o with
 | none=>exact uU _
 | some r=>exact .eE _ (bE (nJ _) (.v _))
noncomputable def raO (ns:List Node) (i:Int):Option (List Node):=CO 1 2 (path ns i) ns
noncomputable def coO (ns:List Node) (i:Int):Option (List Node):=CO 2 1 (Fp ns i ns.length) ns
noncomputable def F3 (ns:List Node) (i:Int):AV:=if 0≤i∧i<ns.length then stA (raO ns i) else Zy 10
noncomputable def F4 (ns:List Node) (i:Int):AV:=if 0≤i∧i<ns.length then stA (coO ns i) else Zy 10
theorem Ud {ns:List Node} (hu:gZ ns) {i:Int}:∀x∈path ns i,0≤x∧x<ns.length:=fun x hx=>uS hu hx
theorem WW (ns:List Node) (i:Int):∀x∈Fp ns i ns.length,0≤x∧x<ns.length:=fun x hx=>((WM ns i x _).1 hx).1
theorem aNI (ns:List Node) (hu:gZ ns) (hn:(ns.length:Int)<1000000) (i:Int):aC Tryz.prog 236 [.agg (cP ⟨ns⟩),.v (.int .i64 i)]=some (F3 ns i):=by
 rw[cL Tryz.func236 rfl aIW rfl];unfold F3;by_cases hm:0≤i∧i<ns.length
 ·rw[if_pos hm];have hd:(decide (0≤i) && decide (i<ns.length))=true:=by simp[hm.1,hm.2]
  have h45:=k76 ns hu hn i hm.1 hm.2
  have hpl:=Ag hu i
  have hc:=aIU ns (by omega) hn (path ns i) (by omega) (Ud hu) 1 2
  unfold raO;cases ho:CO 1 2 (path ns i) ns with
  | none =>
    rw[ho] at hc;have hK:=fun (fl:Bool) (st:St) (d:Option Nat)=>aIP (fl:=fl) (st:=st) (d:=d) hc
    simp only[ZZ,seval,QO,hd,h45,aA6,hK,eA];exact dO rfl (by simp only[bJ,ZZ,seval];rfl) (by simp only[bJ,EV,seval]<;>rfl) (by simp only[EV,seval]<;>rfl) (by simp only[EV,seval]<;>rfl)
  | some r =>
    rw[ho] at hc;have hK:=fun (fl:Bool) (st:St) (d:Nat)=>aIO (fl:=fl) (st:=st) (d:=d) hc (Vi r)
    simp only[ZZ,seval,QO,hd,h45,aA6,hK,eA];exact dO rfl (by simp only[bJ,ZZ,seval];rfl) (by simp only[bJ,EV,seval]<;>rfl) (by simp only[EV,seval]<;>rfl) (by simp only[EV,seval]<;>rfl)
 ·rw[if_neg hm];have hd:(decide (0≤i) && decide (i<ns.length))=false:=by rw[← Bool.not_eq_true];simpa using hm
  simp only[ZZ,seval,QO,hd];exact dO rfl (by simp only[bJ,ZZ,seval];rfl) (by simp only[bJ,EV,seval]<;>rfl) (by simp only[EV,seval]<;>rfl) (by simp only[EV,seval]<;>rfl)
theorem aNJ (ns:List Node) (hu:gZ ns) (hn:(ns.length:Int)<1000000) (i:Int):aC Tryz.prog 238 [.agg (cP ⟨ns⟩),.v (.int .i64 i)]=some (F4 ns i):=by
 rw[cL Tryz.func238 rfl aIX rfl];unfold F4;by_cases hm:0≤i∧i<ns.length
 ·rw[if_pos hm];have hd:(decide (0≤i) && decide (i<ns.length))=true:=by simp[hm.1,hm.2]
  have h36:=k64 ns hu hn i (RI hu hm.1 hm.2 _ hm.2)
  have hdl:=Ub ns i ns.length
  have hc:=aIU ns (by omega) hn (Fp ns i ns.length) (by omega) (WW ns i) 2 1
  unfold coO;cases ho:CO 2 1 (Fp ns i ns.length) ns with
  | none =>
    rw[ho] at hc;have hK:=fun (fl:Bool) (st:St) (d:Option Nat)=>aIP (fl:=fl) (st:=st) (d:=d) hc
    simp only[ZZ,seval,QO,hd,h36,aA6,hK,eA];exact dO rfl (by simp only[bJ,ZZ,seval];rfl) (by simp only[bJ,EV,seval]<;>rfl) (by simp only[EV,seval]<;>rfl) (by simp only[EV,seval]<;>rfl)
  | some r =>
    rw[ho] at hc;have hK:=fun (fl:Bool) (st:St) (d:Nat)=>aIO (fl:=fl) (st:=st) (d:=d) hc (Vi r)
    simp only[ZZ,seval,QO,hd,h36,aA6,hK,eA];exact dO rfl (by simp only[bJ,ZZ,seval];rfl) (by simp only[bJ,EV,seval]<;>rfl) (by simp only[EV,seval]<;>rfl) (by simp only[EV,seval]<;>rfl)
 ·rw[if_neg hm];have hd:(decide (0≤i) && decide (i<ns.length))=false:=by rw[← Bool.not_eq_true];simpa using hm
  simp only[ZZ,seval,QO,hd];exact dO rfl (by simp only[bJ,ZZ,seval];rfl) (by simp only[bJ,EV,seval]<;>rfl) (by simp only[EV,seval]<;>rfl) (by simp only[EV,seval]<;>rfl)
theorem KH (ns:List Node) (i:Int):Flat (F3 ns i):=by unfold F3;split;exact KG _;exact uU _
theorem Vl (ns:List Node) (i:Int):Flat (F4 ns i):=by unfold F4;split;exact KG _;exact uU _
theorem aIY (ns:List Node) (hu:gZ ns) (hn:(ns.length:Int)<1000000) (i:Int) (st:St) (d:Option Nat):aN (aC Tryz.prog) 236 [.agg (cP ⟨ns⟩),.v (.int .i64 i)] st d=some { dst:=d,val:=F3 ns i }:=bI (bE (nJ _) (.v _)) (aNI ns hu hn i) (KH ns i)
theorem aIZ (ns:List Node) (hu:gZ ns) (hn:(ns.length:Int)<1000000) (i:Int) (st:St) (d:Option Nat):aN (aC Tryz.prog) 238 [.agg (cP ⟨ns⟩),.v (.int .i64 i)] st d=some { dst:=d,val:=F4 ns i }:=bI (bE (nJ _) (.v _)) (aNJ ns hu hn i) (Vl ns i)
end Go.Ab.Tryz
namespace Go.Ab.Tryz
open Classical Go.Proofs Go.Ab
end Go.Ab.Tryz
namespace Go.Ab.Tryz
open Classical Go.Proofs Go.Ab
theorem ZO (ns:List Node) (hn:(ns.length:Int)<1000000) (i:Int):(∃e,F3 ns i=.eE [.agg [.v (.slice none 0 0)],.v (.int .i64 e)])∨∃r:List Node,F3 ns i=.eE [.agg (cP ⟨r⟩),.v (.int .i64 0)]∧(r.length:Int)<1000000:=by
 unfold F3;split
 ·cases h:raO ns i with
  | none=>exact .inl ⟨21,rfl⟩
  | some r=>exact .inr ⟨r,rfl,by rw[EL _ _ _ h];exact hn⟩
 ·exact .inl ⟨10,rfl⟩
theorem CP (ns:List Node) (hn:(ns.length:Int)<1000000) (i:Int):(∃e,F4 ns i=.eE [.agg [.v (.slice none 0 0)],.v (.int .i64 e)])∨∃r:List Node,F4 ns i=.eE [.agg (cP ⟨r⟩),.v (.int .i64 0)]∧(r.length:Int)<1000000:=by
 unfold F4;split
 ·cases h:coO ns i with
  | none=>exact .inl ⟨21,rfl⟩
  | some r=>exact .inr ⟨r,rfl,by rw[EL _ _ _ h];exact hn⟩
 ·exact .inl ⟨10,rfl⟩
def pay (ns:List Node) (x:Int):cM:=(nd ns x).block.iL
noncomputable def yI (ns:List Node) (p:List Int):Nat→Option Nat
 | 0=>none
 | n+1=>if pay ns (it p ((p.length-(n+1):Nat):Int))=dK then yI ns p n else some (p.length-(n+1))
noncomputable def Gj (ns:List Node) (p:List Int) (h:cM):Nat→Option Nat
 | 0=>none
 | n+1=>if pay ns (it p (n:Int))=h then some n else Gj ns p h n
noncomputable def oU (ns:List Node) (i:Int) (h:cM):Int × Int :=
 if path ns i=[] then (-1,-1)
 else if h=dK then
  match yI ns (path ns i) (path ns i).length with
  | none=>(-1,i)
  | some k=>(if k=0 then -1 else it (path ns i) ((k:Int)-1),it (path ns i) k)
 else
  match Gj ns (path ns i) h ((path ns i).length-1) with
  | none=>(-1,i)
  | some k=>(it (path ns i) k,it (path ns i) ((k:Int)+1))
noncomputable def reA (ns:List Node) (i:Int) (h:cM):AV:=.eE [.v (.int .i64 (oU ns i h).1),.v (.int .i64 (oU ns i h).2)]
theorem CQ {ns:List Node} {p:List Int}:∀(n k:Nat),n≤p.length→yI ns p n=some k→k<p.length
 | 0,k,_,h=>by simp[yI] at h
 | n+1,k,hn,h=>by
   simp only[yI] at h;split at h
   ·exact CQ n k (by omega) h
   ·simp at h;omega
theorem KI {ns:List Node} {p:List Int} {h:cM}:∀(n k:Nat),Gj ns p h n=some k→k<n
 | 0,k,hk=>by simp[Gj] at hk
 | n+1,k,hk=>by
   simp only[Gj] at hk;split at hk
   ·simp at hk;omega
   ·have:=KI n k hk;omega
theorem RN {ns:List Node} {i:Int} {h:cM} (hp:path ns i=[]):oU ns i h=(-1,-1):=if_pos hp
theorem aET {ns:List Node} {i j:Int} (i0:0≤i) (i1:i<ns.length) (j0:0≤j) (y:Node):nd (ns.set i.toNat y) j=if j=i then y else nd ns j:=by
 unfold nd;rw[List.getD_eq_getElem?_getD,List.getD_eq_getElem?_getD];by_cases h:j=i
 ·subst h;have:j.toNat<ns.length:=by omega
  simp[this]
 ·rw[if_neg h,List.getElem?_set_ne (by omega)]
theorem KJ {to never:Int} (gT:to≠never):∀(l:List Int) (ns r:List Node),(∀x∈l,0≤x∧x<ns.length)→CO to never l ns=some r →
 (∀x∈l,(nd ns x).status≠never)∧r.length=ns.length∧∀j:Int,0≤j→j<ns.length→nd r j=if j∈l then Vk (nd ns j) to else nd ns j
 | [],ns,r,_,h=>by
   simp only[CO,Option.some.injEq] at h;subst h;exact⟨by simp,rfl,by simp⟩
 | i :: l,ns,r,hl,h=>by
   simp only[CO] at h;split at h
   ·cases h
   ·rename_i hs;obtain⟨i0,i1⟩:=hl i (by simp)
    obtain⟨h1,h2,h3⟩:=KJ gT l (setAt ns i to) r (fun x hx=>by rw[Ch];exact hl x (by simp[hx])) h
    rw[Ch] at h2 h3;have hnd:∀j:Int,0≤j→nd (setAt ns i to) j=if j=i then Vk (nd ns i) to else nd ns j:=fun j j0=>aET i0 i1 j0 _
    refine⟨fun x hx=>?_,h2,fun j j0 j1=>?_⟩
    ·rcases List.mem_cons.1 hx with rfl|hx
     ·exact hs
     ·by_cases hxi:x=i
      ·subst hxi;exact hs
      ·have:=h1 x hx
       rw[hnd x (hl x (by simp[hx])).1,if_neg hxi] at this
       exact this
    ·rw[h3 j j0 j1,hnd j j0];by_cases hji:j=i
     ·subst hji;simp only[if_true,List.mem_cons,true_or];split<;>rfl
     ·simp[hji]
structure RO (a b:List Node):Prop where
 len:a.length=b.length
 up:∀j:Int,0≤j→j<a.length→(nd a j).up=(nd b j).up
theorem RO.aNM {a b:List Node} (h:RO a b) (hu:gZ a):gZ b:=fun i i0 i1=>by rw[← h.up i (by omega) (by rw[h.len];exact i1)];exact hu i i0 (by rw[h.len];exact i1)
structure Chd (ns r:List Node) (l:List Int) (to:Int):Prop where
 len:r.length=ns.length
 at_:∀j:Int,0≤j→j<ns.length→nd r j=if j∈l then Vk (nd ns j) to else nd ns j
theorem Chd.su {ns r:List Node} {l:List Int} {to:Int} (h:Chd ns r l to):RO ns r where
 len:=h.len.symm
 up:=fun j j0 j1=>by rw[h.at_ j j0 j1];split<;>rfl
theorem Chd.block {ns r:List Node} {l:List Int} {to:Int} (h:Chd ns r l to) {j:Int} (j0:0≤j) (j1:j<ns.length):(nd r j).block=(nd ns j).block:=by
 rw[h.at_ j j0 j1];split<;>rfl
theorem Chd.upE {ns r:List Node} {l:List Int} {to:Int} (h:Chd ns r l to) {j:Int} (j0:0≤j) (j1:j<ns.length):(nd r j).up=(nd ns j).up:=by
 rw[h.at_ j j0 j1];split<;>rfl
theorem Chd.st {ns r:List Node} {l:List Int} {to:Int} (h:Chd ns r l to) {j:Int} (j0:0≤j) (j1:j<ns.length):(nd r j).status=if j∈l then to else (nd ns j).status:=by
 rw[h.at_ j j0 j1];split<;>rfl
structure aEU (ns r:List Node) (i:Int):Prop where
 c:Chd ns r (path ns i) 1
 ok:∀x∈path ns i,(nd ns x).status≠2
theorem ZP {ns r:List Node} (hu:gZ ns) {i:Int} (h:raO ns i=some r):aEU ns r i:=by
 obtain⟨h1,h2,h3⟩:=KJ (by decide) _ _ _ (Ud hu) h
 exact⟨⟨h2,h3⟩,h1⟩
structure aHQ (ns r:List Node) (i:Int):Prop where
 c:Chd ns r (Fp ns i ns.length) 2
 ok:∀x∈Fp ns i ns.length,(nd ns x).status≠1
theorem CR {ns:List Node} (hu:gZ ns):∀(n:Nat) (c:Int),c.toNat=n→0≤c→c<ns.length→∀k:Int,1≤k→k<(path ns c).length→(nd ns (it (path ns c) k)).up=it (path ns c) (k-1):=by
 intro n;induction n using Nat.strongRecOn with
 | _ n ih =>
   intro c hc c0 c1 k k0 k1;by_cases h:c=0
   ·subst h;rw[qV (by omega)] at k1
    simp at k1
    omega
   ·obtain⟨u0,u1⟩:=hu c (by omega) c1
    rw[qW hu (by omega) c1] at k1 ⊢
    simp at k1
    by_cases hk:k=(path ns (nd ns c).up).length
    ·rw[Cg hk,lZ (by omega) (by omega),hk,ZM hu u0 (by omega)]
    ·rw[lZ (by omega) (by omega),lZ (by omega) (by omega)]
     exact ih (nd ns c).up.toNat (by omega) _ rfl u0 (by omega) k k0 (by omega)
theorem H9 {ns:List Node} (hu:gZ ns):∀(n:Nat) (c:Int),c.toNat=n→0≤c→c<ns.length→it (path ns c) 0=0:=by
 intro n;induction n using Nat.strongRecOn with
 | _ n ih =>
   intro c hc c0 c1;by_cases h:c=0
   ·subst h;rw[qV (by omega)];rfl
   ·obtain⟨u0,u1⟩:=hu c (by omega) c1
    have:=EM hu u0 (by omega)
    rw[qW hu (by omega) c1,lZ (Int.le_refl _) (by omega)]
    exact ih _ (by omega) _ rfl u0 (by omega)
theorem aNO (ns:List Node) (hu:gZ ns) (hr:(nd ns 0).up=-1) (hn:(ns.length:Int)<1000000) (i:Int) (h:cM):aC Tryz.prog 237 [.agg (cP ⟨ns⟩),.v (.int .i64 i),.agg (aZ h)]=some (reA ns i h):=by
 rw[cL Tryz.func237 rfl aI0 rfl];unfold reA;by_cases hm:0≤i∧i<ns.length
 ·have h45:=k76 ns hu hn i hm.1 hm.2
  have hpl:=Ag hu i
  have hp0:=EM hu hm.1 hm.2
  have hin:=Ud hu (i:=i)
  have hpe:path ns i≠[]:=by intro h;rw[h] at hp0;simp at hp0
  have hq:(((path ns i).length:Int) == 0)=false:=by simp[hpe]
  have Vf:=fun k h h'=>CR hu _ i rfl hm.1 hm.2 k h h'
  have hi0:=H9 hu _ i rfl hm.1 hm.2
  unfold oU;rw[if_neg hpe];generalize path ns i=p at h45 hpl hp0 hin hq Vf hi0
  by_cases hz:h=dK
  ·have hd:decide (h=dK)=true:=decide_eq_true hz
   rw[if_pos hz];simp only[ZZ,seval,h45,hq,hd];refine mH (fun n st=>∃k:Nat,(st.env 1=.v (.int .i64 i)∧st.env 3=.ptr 3 0 0∧st.heap 3 0=some (.cells (cP ⟨ns⟩))∧st.env 8=.own 13 0∧st.heap 13 0=some (.row 3 1 p.length (aK p))∧st.env 9=.v (.int .i64 k))∧yI ns p p.length=yI ns p (p.length-k)∧k≤p.length∧n=p.length-k)
    (fun e st=>(e=.ret∧∃k,yI ns p p.length=some k∧st.env 6=.v (.int .i64 (if k=0 then -1 else it p ((k:Int)-1)))∧st.env 7=.v (.int .i64 (it p k)))∨(e=.exit 0∧yI ns p p.length=none∧st.env 1=.v (.int .i64 i))) p.length ?step ?start ?rest
   case step =>
    rintro n st ⟨k,hI,hf,hk,Iw⟩
    by_cases bB:(k:Int)<p.length
    ·have q0:(0:Int)≤k:=by omega
     have hw:IntKind.i64.wrap ((k:Int)+1)=((k+1:Nat):Int):=by rw[Ix _ (by omega) (by omega)];omega
     obtain⟨x0,x1⟩:=hin _ (Ds q0 bB)
     obtain⟨m,hm'⟩:∃m,p.length-k=m+1:=⟨p.length-k-1,by omega⟩
     rw[hm'] at hf;simp only[yI] at hf;rw[show p.length-(m+1)=k by omega] at hf
     by_cases hpz:pay ns (it p k)=dK
     ·rw[if_pos hpz] at hf;have hd2:decide ((nd ns (it p k)).block.iL=dK)=true:=decide_eq_true hpz
      apply oN (p.length-(k+1))
      ·simp only[ZZ,seval,hI,bB,q0,x0,x1,hd2,hw];rfl
      ·exact⟨k+1,by simp only[EV,seval,hI],by rw[hf,show p.length-(k+1)=m by omega],by omega,rfl⟩
     ·rw[if_neg hpz] at hf;have hd2:decide ((nd ns (it p k)).block.iL=dK)=false:=decide_eq_false hpz
      have hupk:(nd ns (it p k)).up=if k=0 then -1 else it p ((k:Int)-1):=by
       by_cases tP:k=0
       ·rw[if_pos tP,show ((k:Int))=0 by omega,hi0,hr]
       ·rw[if_neg tP,Vf k (by omega) bB]
      apply oT (.ret)
      ·simp only[ZZ,seval,hI,bB,q0,x0,x1,hd2];rfl
      ·exact .inl ⟨rfl,k,hf,by rw[← hupk];simp only[EV,seval],by simp only[EV,seval]⟩
    ·obtain rfl:k=p.length:=by omega
     rw[Nat.sub_self] at hf;apply oT (.exit 0)
     ·simp only[ZZ,seval,hI,bB];rfl
     ·exact .inr ⟨rfl,hf,by simp only[EV,seval,hI]⟩
   case start=>exact⟨0,by simp only[EV,seval]<;>rfl,rfl,by omega,rfl⟩
   case rest =>
    rintro e st (⟨rfl,k,hf,h6,h7⟩|⟨rfl,hf,h1⟩)
    ·rw[hf];simp only[ZZ,seval];exact dO rfl (by simp only[bJ,EV,seval,h6]<;>rfl) (by simp only[bJ,EV,seval,h7]<;>rfl) (by simp only[EV,seval]<;>rfl) (by simp only[EV,seval]<;>rfl)
    ·rw[hf];simp only[ZZ,seval,h1];exact dO rfl (by simp only[bJ,EV,seval]<;>rfl) (by simp only[bJ,EV,seval]<;>rfl) (by simp only[EV,seval]<;>rfl) (by simp only[EV,seval]<;>rfl)
  ·have hd:decide (h=dK)=false:=decide_eq_false hz
   have hw0:IntKind.i64.wrap ((p.length:Int)-2)=(p.length:Int)-2:=Ix _ (by omega) (by omega)
   rw[if_neg hz];simp only[ZZ,seval,h45,hq,hd,hw0];refine mH (fun n st=>∃m:Nat,(st.env 1=.v (.int .i64 i)∧st.env 3=.ptr 3 0 0∧st.heap 3 0=some (.cells (cP ⟨ns⟩))∧st.env 5=.ptr 5 0 0∧st.heap 5 0=some (.cells (aZ h))∧st.env 8=.own 13 0∧st.heap 13 0=some (.row 3 1 p.length (aK p))∧st.env 10=.v (.int .i64 ((m:Int)-1)))∧Gj ns p h (p.length-1)=Gj ns p h m∧m≤p.length-1∧n=m)
    (fun e st=>(e=.ret∧∃k,Gj ns p h (p.length-1)=some k∧st.env 6=.v (.int .i64 (it p k))∧st.env 7=.v (.int .i64 (it p ((k:Int)+1))))∨(e=.exit 2∧Gj ns p h (p.length-1)=none∧st.env 1=.v (.int .i64 i))) (p.length-1) ?step ?start ?rest
   case step =>
    rintro n st ⟨m,hI,hf,hm',Iw⟩
    by_cases bB:(0:Int)≤(m:Int)-1
    ·obtain⟨k,rfl⟩:∃k,m=k+1:=⟨m-1,by omega⟩
     have e1:((k+1:Nat):Int)-1=k:=by omega
     rw[e1] at hI bB;have k1:(k:Int)<p.length:=by omega
     have hw:IntKind.i64.wrap ((k:Int)-1)=(k:Int)-1:=Ix _ (by omega) (by omega)
     obtain⟨x0,x1⟩:=hin _ (Ds bB k1)
     simp only[Gj] at hf;by_cases hpz:pay ns (it p k)=h
     ·rw[if_pos hpz] at hf;have hd2:decide ((nd ns (it p k)).block.iL=h)=true:=decide_eq_true hpz
      have I0:IntKind.i64.wrap ((k:Int)+1)=(k:Int)+1:=Ix _ (by omega) (by omega)
      have r0:(0:Int)≤(k:Int)+1:=by omega
      have r1:(k:Int)+1<p.length:=by omega
      apply oT (.ret)
      ·simp only[ZZ,seval,hI,bB,k1,x0,x1,hd2,I0,r0,r1];rfl
      ·exact .inl ⟨rfl,k,hf,by simp only[EV,seval],by simp only[EV,seval]⟩
     ·rw[if_neg hpz] at hf;have hd2:decide ((nd ns (it p k)).block.iL=h)=false:=decide_eq_false hpz
      apply oN (k)
      ·simp only[ZZ,seval,hI,bB,k1,x0,x1,hd2,hw];rfl
      ·exact⟨k,by simp only[EV,seval,hI],hf,by omega,rfl⟩
    ·obtain rfl:m=0:=by omega
     apply oT (.exit 2)
     ·simp only[ZZ,seval,hI,bB];rfl
     ·exact .inr ⟨rfl,hf,by simp only[EV,seval,hI]⟩
   case start =>
    have hs:(p.length:Int)-2=((p.length-1:Nat):Int)-1:=by omega
    exact⟨p.length-1,by simp only[EV,seval,hs],rfl,by omega,rfl⟩
   case rest =>
    rintro e st (⟨rfl,k,hf,h6,h7⟩|⟨rfl,hf,h1⟩)
    ·rw[hf];simp only[ZZ,seval];exact dO rfl (by simp only[bJ,EV,seval,h6]<;>rfl) (by simp only[bJ,EV,seval,h7]<;>rfl) (by simp only[EV,seval]<;>rfl) (by simp only[EV,seval]<;>rfl)
    ·rw[hf];simp only[ZZ,seval,h1];exact dO rfl (by simp only[bJ,EV,seval]<;>rfl) (by simp only[bJ,EV,seval]<;>rfl) (by simp only[EV,seval]<;>rfl) (by simp only[EV,seval]<;>rfl)
 ·rw[RN (xU hm)];have h45:=YU ns i hm
  simp only[ZZ,seval,h45];exact dO rfl (by simp only[bJ,EV,seval]<;>rfl) (by simp only[bJ,EV,seval]<;>rfl) (by simp only[EV,seval]<;>rfl) (by simp only[EV,seval]<;>rfl)
theorem I1 (ns:List Node) (i:Int) (h:cM):Flat (reA ns i h):=.eE _ (bE (.v _) (.v _))
theorem aNQ (ns:List Node) (hu:gZ ns) (hr:(nd ns 0).up=-1) (hn:(ns.length:Int)<1000000) (i:Int) (h:cM) (st:St) (d:Option Nat):aN (aC Tryz.prog) 237 [.agg (cP ⟨ns⟩),.v (.int .i64 i),.agg (aZ h)] st d=some { dst:=d,val:=.eE [.v (.int .i64 (oU ns i h).1),.v (.int .i64 (oU ns i h).2)]}:=bI (lN (nJ _) (.v _) (rH _)) (aNO ns hu hr hn i h) (I1 ns i h)
theorem RP {ns:List Node} (hu:gZ ns) (hr:(nd ns 0).up=-1) {i:Int} (i0:0≤i) (i1:i<ns.length) (h:cM):(oU ns i h).2∈path ns i∧((oU ns i h).1<0∨((oU ns i h).1∈path ns i∧(nd ns (oU ns i h).2).up=(oU ns i h).1)):=by
 have hp0:=EM hu i0 i1
 have hpe:path ns i≠[]:=by intro h;rw[h] at hp0;simp at hp0
 have CS:=xT hu i0 i1
 have Vf:=fun k h h'=>CR hu _ i rfl i0 i1 k h h'
 unfold oU;rw[if_neg hpe];by_cases hz:h=dK
 ·rw[if_pos hz];cases hf:yI ns (path ns i) (path ns i).length with
  | none=>exact⟨CS,.inl (by simp)⟩
  | some k =>
    have hk:=CQ _ _ (Nat.le_refl _) hf
    simp only
    refine⟨Ds (by omega) (by omega), ?_⟩
    by_cases tP:k=0
    ·rw[if_pos tP];exact .inl (by omega)
    ·rw[if_neg tP];exact .inr ⟨Ds (by omega) (by omega),Vf k (by omega) (by omega)⟩
 ·rw[if_neg hz];cases hf:Gj ns (path ns i) h ((path ns i).length-1) with
  | none=>exact⟨CS,.inl (by simp)⟩
  | some k =>
    have hk:=KI _ _ hf
    simp only
    refine⟨Ds (by omega) (by omega),.inr ⟨Ds (by omega) (by omega), ?_⟩⟩
    have:=Vf ((k:Int)+1) (by omega) (by omega)
    rw[this];congr 1
    omega
def Vm (kv:AV) (l:List Int):Prop:=kv=.sl l.length (aK l)∨(l=[]∧kv=.v (.slice none 0 0))
theorem Vm.view {kv:AV} {l:List Int} (h:Vm kv l) (st:St):aR st kv=some (l.length,aK l):=by
 rcases h with rfl|⟨rfl,rfl⟩<;>rfl
theorem Vm.idx {kv:AV} {l:List Int} (h:Vm kv l) (st:St) {k:IntKind} {i:Int} (h0:0≤i) (h1:i<l.length):bD Tryz.prog st 22 kv (.v (.int k i))=some (.ip (pE (it l i)) 0):=by
 rcases h with rfl|⟨rfl,rfl⟩
 ·exact aDI st h0 h1
 ·simp at h1;omega
theorem Vm.flat {kv:AV} {l:List Int} (h:Vm kv l):Flat kv:=by
 rcases h with rfl|⟨rfl,rfl⟩
 ·exact Pn l
 ·exact .v _
def WX (ns:List Node) (c:Int) (l:List Int):Prop:=∃k∈l,wY ns c k=true
noncomputable def I2 (ns:List Node) (i:Int) (h:cM) (l:List Int):AV :=
 if WX ns (oU ns i h).2 l then Zy 21
 else if 0≤(oU ns i h).1 then
  match raO ns (oU ns i h).1 with
  | none=>Zy 21
  | some r=>F4 r (oU ns i h).2
 else F4 ns (oU ns i h).2
noncomputable def RQ (ns:List Node) (i:Int) (v:eD) (l:List Int):AV :=
 if ¬(0≤i∧i<ns.length) then Zy 10
 else if v.kind=1 then F3 ns i
 else if v.kind=2 then I2 ns i v.dV l
 else if v.kind=3∨v.kind=4 then .eE [.agg (cP ⟨ns⟩),.v (.int .i64 0)]
 else Zy 2
theorem ZQ (ns:List Node) (i:Int) (h:cM) (l:List Int):Flat (I2 ns i h l):=by
 unfold I2;split
 ·exact uU _
 ·split
  ·split
   ·exact uU _
   ·exact Vl _ _
  ·exact Vl _ _
theorem ZR (ns:List Node) (i:Int) (v:eD) (l:List Int):Flat (RQ ns i v l):=by
 unfold RQ;split
 ·exact uU _
 ·split
  ·exact KH _ _
  ·split
   ·exact ZQ _ _ _ _
   ·split
    ·exact .eE _ (bE (nJ _) (.v _))
    ·exact uU _
theorem aNR (ns:List Node) (hu:gZ ns) (hr:(nd ns 0).up=-1) (hn:(ns.length:Int)<1000000) (i:Int) (v:eD) (l:List Int) (hl:(l.length:Int)<1000000) {kv:AV} (hkv:Vm kv l) :
 aC Tryz.prog 222 [.agg (cP ⟨ns⟩),.v (.int .i64 i),.agg (bN v),kv]=some (RQ ns i v l):=by
 rw[cL Tryz.func222 rfl aI1 (by rcases hkv with rfl|⟨rfl,rfl⟩<;>rfl)]
 have h86:=QO ns i
 unfold RQ;by_cases hm:0≤i∧i<ns.length
 ·obtain⟨i0,i1⟩:=hm
  have hd:(decide (0≤i) && decide (i<(ns.length:Int)))=true:=by simp[i0,i1]
  rw[hd] at h86;rw[if_neg (by simp[i0,i1])]
  by_cases h1:v.kind=1
  ·rw[if_pos h1];have b1:(v.kind == 1)=true:=by simp[h1]
   have h96:=aIY ns hu hn i
   rcases ZO ns hn i with ⟨e,he⟩|⟨q,he,_⟩
   all_goals
    rw[he] at h96;rw[he];simp only[ZZ,seval,h86,b1,h96,eA];exact dO rfl (by simp only[bJ,ZZ,seval];rfl) (by simp only[bJ,EV,seval]<;>rfl) (by simp only[EV,seval]<;>rfl) (by simp only[EV,seval]<;>rfl)
  ·rw[if_neg h1];have b1:(v.kind == 1)=false:=by simp[h1]
   by_cases h2:v.kind=2
   ·rw[if_pos h2];have b2:(v.kind == 2)=true:=by simp[h2]
    have b3:(v.kind == 3)=false:=by simp[h2]
    have b4:(v.kind == 4)=false:=by simp[h2]
    have hRe:=aNQ ns hu hr hn i v.dV
    have hfact:=RP hu hr i0 i1 v.dV
    have hv:=hkv.view
    have hix:=fun st (k:IntKind) (i:Int) h0 h1=>hkv.idx st (k:=k) (i:=i) h0 h1
    have h46:=sS ns hu hn
    unfold I2;obtain⟨a,ha⟩:∃a,(oU ns i v.dV).1=a:=⟨_,rfl⟩
    obtain⟨c,hc⟩:∃c,(oU ns i v.dV).2=c:=⟨_,rfl⟩
    rw[ha,hc] at hRe hfact;rw[ha,hc];simp only[ZZ,seval,h86,b1,b2,b3,b4,hRe,eA];refine mH (fun n st=>∃k:Nat,(st.env 3=kv∧st.env 4=.ptr 4 0 0∧st.heap 4 0=some (.cells (cP ⟨ns⟩))∧st.env 8=.ptr 8 0 0∧st.heap 8 0=some (.cells [.v (.slice none 0 0)])∧st.env 10=.v (.int .i64 a)∧st.env 11=.v (.int .i64 c)∧st.env 12=.v (.int .i64 k))∧(∀j:Int,0≤j→j<k→wY ns c (it l j)=false)∧k≤l.length∧n=l.length-k)
     (fun e st=>(e=.ret∧WX ns c l∧st.env 8=.ptr 8 0 0∧st.heap 8 0=some (.cells [.v (.slice none 0 0)])∧st.env 9=.v (.int .i64 21))∨(e=.exit 1∧¬WX ns c l∧st.env 4=.ptr 4 0 0∧st.heap 4 0=some (.cells (cP ⟨ns⟩))∧st.env 8=.ptr 8 0 0∧st.heap 8 0=some (.cells [.v (.slice none 0 0)])∧st.env 10=.v (.int .i64 a)∧st.env 11=.v (.int .i64 c))) l.length ?step ?start ?rest
    case step =>
     rintro n st ⟨k,hI,hj,hk,Iw⟩
     by_cases bB:(k:Int)<l.length
     ·have q0:(0:Int)≤k:=by omega
      have hw:IntKind.i64.wrap ((k:Int)+1)=((k+1:Nat):Int):=by rw[Ix _ (by omega) (by omega)];omega
      cases hA:wY ns c (it l k)
      ·apply oN (l.length-(k+1))
       ·simp only[ZZ,seval,hI,bB,q0,hv,hix,h46,hA,hw];rfl
       ·exact⟨k+1,by simp only[EV,seval,hI],fun j j0 j1=>by
        by_cases hjk:j<k
        ·exact hj j j0 hjk
        ·rw[show j=(k:Int) by omega];exact hA,by omega,rfl⟩
      ·apply oT (.ret)
       ·simp only[ZZ,seval,hI,bB,q0,hv,hix,h46,hA];rfl
       ·exact .inl ⟨rfl,⟨_,Ds q0 bB,hA⟩,by simp only[EV,seval,hI],by simp only[EV,seval,hI],by simp only[EV,seval,hI]⟩
     ·obtain rfl:k=l.length:=by omega
      have hno:¬WX ns c l:=by
       rintro⟨x,hx,hxa⟩
       obtain⟨j,hj',rfl⟩:=List.getElem_of_mem hx
       have:=hj j (by omega) (by omega)
       rw[show it l (j:Int)=l[j] by simp[it,hj']] at this
       rw[this] at hxa;cases hxa
      apply oT (.exit 1)
      ·simp only[ZZ,seval,hI,hv,bB];rfl
      ·exact .inr ⟨rfl,hno,by simp only[EV,seval,hI]⟩
    case start=>exact⟨0,by simp only[EV,seval],fun j _ _=>by omega,by omega,by omega⟩
    case rest =>
     rintro e st (⟨rfl,hk,hI⟩|⟨rfl,hk,hI⟩)
     ·rw[if_pos hk];simp only[ZZ,seval];exact dO rfl (by simp only[bJ,ZZ,seval,hI];rfl) (by simp only[bJ,EV,seval,hI]<;>rfl) (by simp only[EV,seval]<;>rfl) (by simp only[EV,seval]<;>rfl)
     ·rw[if_neg hk];by_cases h0:0≤a
      ·rw[if_pos h0];have nG:a∈path ns i:=by
        rcases hfact.2 with h|h
        ·omega
        ·exact h.1
       obtain⟨_,a1⟩:=Ud hu a nG
       have h96:=aIY ns hu hn a
       rw[show F3 ns a=stA (raO ns a) from if_pos ⟨h0,a1⟩] at h96;cases ho:raO ns a with
       | none =>
         rw[ho] at h96;simp only[stA,Zy] at h96;simp only[ZZ,seval,hI,h0,h96,eA];exact dO rfl (by simp only[bJ,ZZ,seval,hI];rfl) (by simp only[bJ,EV,seval,hI]<;>rfl) (by simp only[EV,seval]<;>rfl) (by simp only[EV,seval]<;>rfl)
       | some r =>
         rw[ho] at h96;simp only[stA] at h96;have hR:=ZP hu ho
         have hu2:=hR.c.su.aNM hu
         have h97:=aIZ r hu2 (by rw[hR.c.len];exact hn) c
         rcases CP r (by rw[hR.c.len];exact hn) c with ⟨e,he⟩|⟨q,he,_⟩
         all_goals
          rw[he] at h97;simp only[he];simp only[ZZ,seval,hI,h0,h96,h97,eA];exact dO rfl (by simp only[bJ,ZZ,seval,hI];rfl) (by simp only[bJ,EV,seval,hI]<;>rfl) (by simp only[EV,seval]<;>rfl) (by simp only[EV,seval]<;>rfl)
      ·rw[if_neg h0];have h97:=aIZ ns hu hn c
       rcases CP ns hn c with ⟨e,he⟩|⟨q,he,_⟩
       all_goals
        rw[he] at h97;rw[he];simp only[ZZ,seval,hI,h0,h97,eA];exact dO rfl (by simp only[bJ,ZZ,seval,hI];rfl) (by simp only[bJ,EV,seval,hI]<;>rfl) (by simp only[EV,seval]<;>rfl) (by simp only[EV,seval]<;>rfl)
   ·rw[if_neg h2];have b2:(v.kind == 2)=false:=by simp[h2]
    by_cases h3:v.kind=3
    ·rw[if_pos (.inl h3)];have b3:(v.kind == 3)=true:=by simp[h3]
     simp only[ZZ,seval,h86,b1,b2,b3];exact dO rfl (by simp only[bJ,ZZ,seval];rfl) (by simp only[bJ,EV,seval]<;>rfl) (by simp only[EV,seval]<;>rfl) (by simp only[EV,seval]<;>rfl)
    ·have b3:(v.kind == 3)=false:=by simp[h3]
     by_cases h4:v.kind=4
     ·rw[if_pos (.inr h4)];have b4:(v.kind == 4)=true:=by simp[h4]
      simp only[ZZ,seval,h86,b1,b2,b3,b4];exact dO rfl (by simp only[bJ,ZZ,seval];rfl) (by simp only[bJ,EV,seval]<;>rfl) (by simp only[EV,seval]<;>rfl) (by simp only[EV,seval]<;>rfl)
     ·rw[if_neg (by omega)]
      have b4:(v.kind == 4)=false:=by simp[h4]
      simp only[ZZ,seval,h86,b1,b2,b3,b4];exact dO rfl (by simp only[bJ,ZZ,seval];rfl) (by simp only[bJ,EV,seval]<;>rfl) (by simp only[EV,seval]<;>rfl) (by simp only[EV,seval]<;>rfl)
 ·rw[if_pos hm];have hd:(decide (0≤i) && decide (i<(ns.length:Int)))=false:=by
   by_cases h0:0≤i
   ·have:¬i<ns.length:=fun h=>hm ⟨h0,h⟩
    simp[this]
   ·simp[h0]
  rw[hd] at h86;simp only[ZZ,seval,h86];exact dO rfl (by simp only[bJ,ZZ,seval];rfl) (by simp only[bJ,EV,seval]<;>rfl) (by simp only[EV,seval]<;>rfl) (by simp only[EV,seval]<;>rfl)
end Go.Ab.Tryz
