/-
  Part 10 of the proof: an evaluator of programs, its soundness, and what functions of this program compute.
-/
import Derived.Test.YtmcjkemalibacaaGreatK9
import Derived.Test.YtmcjkemalibacaaGreatK7
set_option linter.all false
set_option maxRecDepth 20000
set_option maxHeartbeats 40000000
namespace Go.Ab.Tryz
open Classical Go.Proofs Go.Ab
theorem aCE:Flat (.agg [.v (.slice none 0 0)]):=.agg _ (by simp;exact .v _)
theorem Qf (x m:Int) (hm:0≤m∧m<9223372036854775808):0≤IntKind.i64.wrap ↑(BitVec.ofInt IntKind.i64.bits x &&& BitVec.ofInt IntKind.i64.bits m).toNat∧IntKind.i64.wrap ↑(BitVec.ofInt IntKind.i64.bits x &&& BitVec.ofInt IntKind.i64.bits m).toNat≤m:=by
 have h0:(BitVec.ofInt IntKind.i64.bits x &&& BitVec.ofInt IntKind.i64.bits m).toNat≤(BitVec.ofInt IntKind.i64.bits m).toNat:=by rw[BitVec.toNat_and];exact Nat.and_le_right
 have hb:IntKind.i64.bits=64:=rfl
 have h:(BitVec.ofInt IntKind.i64.bits (m:Int)).toNat=m.toNat:=by
  rw[BitVec.toNat_ofInt,hb];omega
 rw[h] at h0;rw[Gs _ (by omega) (by omega)]
 omega
theorem TF {i n:Int} (h:0≤i) (hn:0<n):0≤i.tdiv n∧i.tdiv n≤i:=by
 rw[Int.tdiv_eq_ediv_of_nonneg h];exact⟨Int.ediv_nonneg h (by omega),Int.ediv_le_self n h⟩
theorem eG {i n:Int} (h:0≤i) (hn:0<n):0≤i.tmod n∧i.tmod n<n:=by
 rw[Int.tmod_eq_emod_of_nonneg h];exact⟨Int.emod_nonneg i (by omega),Int.emod_lt_of_pos i hn⟩
theorem Au {i:Int} (h:0≤i) (s:Nat):0≤i.fdiv (2 ^ s):=by
 have h2:(0:Int)≤2 ^ s:=Int.pow_nonneg (by decide)
 rw[Int.fdiv_eq_ediv_of_nonneg _ h2];exact Int.ediv_nonneg h h2
theorem aKD (l:List Int) (hl:(l.length:Int)≤9223372036854775807) (i:Int) (i0:0≤i) (i1:i<1000000):∃k:Int,aD Tryz.prog 145 [.sl l.length (aJ l),.v (.int .i64 i)]=some (.v (.int .i64 k))∧0≤k∧k≤17777215:=by
 rw[cL Tryz.func145 rfl aKE rfl];by_cases h:(l.length:Int)=0
 ·have hq:((l.length:Int) == 0)=true:=by simp[h]
  simp only[ZZ,seval,hq];obtain⟨b1,b2⟩:=Qf i 65535 (by decide)
  exact⟨_,bX rfl (by simp only[EV,seval]<;>rfl) (.v _),b1,by omega⟩
 ·have hq:((l.length:Int) == 0)=false:=by rw[beq_eq_false_iff_ne];exact h
  obtain⟨m1,m2⟩:=eG (n:=(l.length:Int)) i0 (by omega)
  obtain⟨d1,d2⟩:=TF (n:=(l.length:Int)) i0 (by omega)
  simp only[ZZ,seval,hq,h,m1,m2];obtain⟨b1,b2⟩:=Qf (it l (i.tmod ↑l.length)) 16777215 (by decide)
  refine⟨_,bX rfl (by simp only[EV,seval]<;>rfl) (.v _), ?_, ?_⟩
  all_goals
   rw[Gs (i.tdiv ↑l.length) (by omega) (by omega),Gs _ (by omega) (by omega)]
   omega
noncomputable def GF (l:List Int) (i:Int):Int:=if h:((l.length:Int)≤9223372036854775807∧0≤i∧i<1000000) then Classical.choose (aKD l h.1 i h.2.1 h.2.2) else 0
theorem Mz (l:List Int) (hl:(l.length:Int)≤9223372036854775807) (i:Int) (i0:0≤i) (i1:i<1000000):aD Tryz.prog 145 [.sl l.length (aJ l),.v (.int .i64 i)]=some (.v (.int .i64 (GF l i)))∧0≤GF l i∧GF l i≤17777215:=by
 have h:((l.length:Int)≤9223372036854775807∧0≤i∧i<1000000):=⟨hl,i0,i1⟩
 unfold GF;rw[dif_pos h];exact Classical.choose_spec (aKD l h.1 i h.2.1 h.2.2)
theorem Na (l:List Int) (hl:(l.length:Int)≤9223372036854775807) (i:Int) (i0:0≤i) (i1:i<1000000) (st:St) (d:Option Nat):aN (aD Tryz.prog) 145 [.sl l.length (aJ l),.v (.int .i64 i)] st d=some { dst:=d,val:=.v (.int .i64 (GF l i))}:=bL (bI (Ky l) (.v _)) (Mz l hl i i0 i1).1 (.v _)
def mkRoot (n:Int):cK:=((dO.set 0 (IntKind.u8.wrap n)).set 1 (IntKind.u8.wrap (n.fdiv (2 ^ min 8 IntKind.i64.bits)))).set 31 (IntKind.u8.wrap (IntKind.i64.wrap (n * 7)))
theorem c30 (n:Int):aD Tryz.prog 30 [.v (.int .i64 n)]=some (.agg (aX (mkRoot n))):=by
 rw[cL Tryz.func30 rfl aPO rfl];simp only[ZZ,seval,Wf,Nat.reduceLT];exact fL rfl (by simp only[EV,seval];rfl) (by simp only[ZZ,seval];rfl) (.agg _ (dL _))
theorem Ty (n:Int) (st:St) (d:Option Nat):aN (aD Tryz.prog) 30 [.v (.int .i64 n)] st d=some { dst:=d,val:=.agg (aX (mkRoot n))}:=bL (cP (.v _)) (c30 n) (qT _)
theorem aPP (b:Block) (s:Int):aD Tryz.prog 157 [.agg (aT b),.v (.int .i64 s)]=some (.agg (cU ⟨[⟨b,-1,s⟩]⟩)):=by
 rw[cL Tryz.func157 rfl aKF rfl];simp only[ZZ,seval];exact eB rfl (by simp only[EV,seval];rfl) (by simp only[ZZ,seval];rfl) (by simp only[EV,seval,Option.map_some]<;>rfl)
theorem aPQ (b:Block) (s:Int) (st:St) (d:Option Nat):aN (aD Tryz.prog) 157 [.agg (aT b),.v (.int .i64 s)] st d=some { dst:=d,val:=.agg (cU ⟨[⟨b,-1,s⟩]⟩)}:=bL (bI (uY _) (.v _)) (aPP b s) (nC _)
theorem z5 (i:Int) (st:St) (d:Option Nat):aN (aD Tryz.prog) 186 [.v (.int .i64 i)] st d=some { dst:=d,val:=.v (.bool (TG i))}:=bL (cP (.v _)) (aPR i) (.v _)
theorem mS (ns:List Node) (r:cK) (hn:(ns.length:Int)<1000000) (st:St) (d:Option Nat):aN (aD Tryz.prog) 46 [.agg (cU ⟨ns⟩),.agg (aX r)] st d=some { dst:=d,val:=.v (.int .i64 (aP ns r))}:=bL (bI (nC _) (qT _)) (c46 ns r hn) (.v _)
noncomputable def BM (ns:List Node) (b:Block) (s:Int):Int :=
 if TG s=false then 2 else if 0≤aP ns b.root then 9 else if aP ns b.parent<0 then 10 else if b.slot≤(nd ns (aP ns b.parent)).block.slot then 14 else if 4096≤(ns.length:Int) then 11 else 0
noncomputable def Gt (ns:List Node) (b:Block) (s:Int):AV :=
 if BM ns b s=0 then .dZ [.agg (cU ⟨ns++[⟨b,aP ns b.parent,s⟩]⟩),.v (.int .i64 0)] else .dZ [.agg [.v (.slice none 0 0)],.v (.int .i64 (BM ns b s))]
theorem eY (ns:List Node) (r:cK):-1≤aP ns r∧aP ns r<ns.length:=by
 unfold aP;cases h:ns.findIdx? (fun n=>decide (n.block.root=r)) with
 | none=>simp only;omega
 | some k =>
   have:=(List.findIdx?_eq_some_iff_getElem.1 h).1
   simp only;omega
theorem aPS (ns:List Node) (hn:(ns.length:Int)<1000000) (b:Block) (s:Int):aD Tryz.prog 149 [.agg (cU ⟨ns⟩),.agg (aT b),.v (.int .i64 s)]=some (Gt ns b s):=by
 rw[cL Tryz.func149 rfl aKG rfl];have hu:=eY ns b.parent
 cases hs:TG s
 ·simp only[ZZ,seval,z5,hs];rw[show Gt ns b s=.dZ [.agg [.v (.slice none 0 0)],.v (.int .i64 2)] from by simp[Gt,BM,hs]]
  exact dP rfl (by simp only[bY,ZZ,seval];rfl) (by simp only[bY,EV,seval]<;>rfl) (by simp only[EV,seval]<;>rfl) (by simp only[EV,seval]<;>rfl)
 by_cases h1:0≤aP ns b.root
 ·simp only[ZZ,seval,z5,hs,mS,hn,h1];rw[show Gt ns b s=.dZ [.agg [.v (.slice none 0 0)],.v (.int .i64 9)] from by simp[Gt,BM,hs,h1]]
  exact dP rfl (by simp only[bY,ZZ,seval];rfl) (by simp only[bY,EV,seval]<;>rfl) (by simp only[EV,seval]<;>rfl) (by simp only[EV,seval]<;>rfl)
 by_cases h2:aP ns b.parent<0
 ·simp only[ZZ,seval,z5,hs,mS,hn,h1,h2];rw[show Gt ns b s=.dZ [.agg [.v (.slice none 0 0)],.v (.int .i64 10)] from by simp[Gt,BM,hs,h1,h2]]
  exact dP rfl (by simp only[bY,ZZ,seval];rfl) (by simp only[bY,EV,seval]<;>rfl) (by simp only[EV,seval]<;>rfl) (by simp only[EV,seval]<;>rfl)
 have u0:0≤aP ns b.parent:=by omega
 have u1:aP ns b.parent<ns.length:=hu.2
 by_cases h3:b.slot≤(nd ns (aP ns b.parent)).block.slot
 ·simp only[ZZ,seval,z5,hs,mS,hn,h1,h2,u0,u1,h3];rw[show Gt ns b s=.dZ [.agg [.v (.slice none 0 0)],.v (.int .i64 14)] from by simp[Gt,BM,hs,h1,h2,h3]]
  exact dP rfl (by simp only[bY,ZZ,seval];rfl) (by simp only[bY,EV,seval]<;>rfl) (by simp only[EV,seval]<;>rfl) (by simp only[EV,seval]<;>rfl)
 by_cases h4:4096≤(ns.length:Int)
 ·simp only[ZZ,seval,z5,hs,mS,hn,h1,h2,u0,u1,h3,h4];rw[show Gt ns b s=.dZ [.agg [.v (.slice none 0 0)],.v (.int .i64 11)] from by simp[Gt,BM,hs,h1,h2,h3,h4]]
  exact dP rfl (by simp only[bY,ZZ,seval];rfl) (by simp only[bY,EV,seval]<;>rfl) (by simp only[EV,seval]<;>rfl) (by simp only[EV,seval]<;>rfl)
 ·simp only[ZZ,seval,z5,hs,mS,hn,h1,h2,u0,u1,h3,h4];rw[show Gt ns b s=.dZ [.agg (cU ⟨ns++[⟨b,aP ns b.parent,s⟩]⟩),.v (.int .i64 0)] from by simp[Gt,BM,hs,h1,h2,h3,h4]]
  exact dP rfl (by simp only[bY,ZZ,seval];rfl) (by simp only[bY,EV,seval]<;>rfl) (by simp only[EV,seval]<;>rfl) (by simp only[EV,seval]<;>rfl)
theorem z6 (ns:List Node) (b:Block) (s:Int):Flat (Gt ns b s):=by
 unfold Gt;split
 ·exact .dZ _ (bI (nC _) (.v _))
 ·exact .dZ _ (bI aCE (.v _))
theorem aPT (ns:List Node) (hn:(ns.length:Int)<1000000) (b:Block) (s:Int) (st:St) (d:Option Nat):aN (aD Tryz.prog) 149 [.agg (cU ⟨ns⟩),.agg (aT b),.v (.int .i64 s)] st d=some { dst:=d,val:=Gt ns b s }:=bL (oE (nC _) (uY _) (.v _)) (aPS ns hn b s) (z6 ns b s)
theorem aPU (n:Int):aD Tryz.prog 188 [.v (.int .u64 n)]=some (.v (.bool (decide (1≤n) && decide (n≤64)))):=by
 rw[cL Tryz.func188 rfl aKH rfl];by_cases h:1≤n
 all_goals
  simp only[Z8,seval,h,decide_true,decide_false,Bool.true_and,Bool.false_and];exact bX rfl (by simp only[E8,seval,h,decide_true,decide_false,Bool.true_and,Bool.false_and]<;>rfl) (.v _)
theorem aKI (n:Int) (st:St) (d:Option Nat):aN (aD Tryz.prog) 188 [.v (.int .u64 n)] st d=some { dst:=d,val:=.v (.bool (decide (1≤n) && decide (n≤64)))}:=bL (cP (.v _)) (aPU n) (.v _)
noncomputable def z7 (a b:Int):Int × Int:=if b≠0∧IntKind.u64.wrap (Int.tdiv 18446744073709551615 b)<a then (0,4) else (IntKind.u64.wrap (a * b),0)
theorem aPV (a b:Int):aD Tryz.prog 189 [.v (.int .u64 a),.v (.int .u64 b)]=some (.dZ [.v (.int .u64 (z7 a b).1),.v (.int .i64 (z7 a b).2)]):=by
 rw[cL Tryz.func189 rfl aKJ rfl];unfold z7;by_cases h:b=0
 ·rw[if_neg (fun k=>k.1 h)]
  have hb:(b != 0)=false:=by simp[h]
  simp only[Z8,seval,hb];exact dP rfl rfl rfl (by simp only[E8,seval]<;>rfl) (by simp only[E8,seval]<;>rfl)
 ·have hb:(b != 0)=true:=by simp[h]
  have YM:(b=0)=False:=eq_false h
  by_cases h2:IntKind.u64.wrap (Int.tdiv 18446744073709551615 b)<a
  ·rw[if_pos ⟨h,h2⟩];simp only[Z8,seval,hb,YM,h2];exact dP rfl rfl rfl (by simp only[E8,seval]<;>rfl) (by simp only[E8,seval]<;>rfl)
  ·rw[if_neg (fun k=>h2 k.2)]
   simp only[Z8,seval,hb,YM,h2];exact dP rfl rfl rfl (by simp only[E8,seval]<;>rfl) (by simp only[E8,seval]<;>rfl)
theorem aPW (a b:Int) (st:St) (d:Option Nat):aN (aD Tryz.prog) 189 [.v (.int .u64 a),.v (.int .u64 b)] st d=some { dst:=d,val:=.dZ [.v (.int .u64 (z7 a b).1),.v (.int .i64 (z7 a b).2)]}:=bL (bI (.v _) (.v _)) (aPV a b) (.dZ _ (bI (.v _) (.v _)))
noncomputable def LO (e p:Int):Int × Int:=if 1≤p∧p≤64 then z7 e p else (0,3)
theorem aPX (e p:Int):aD Tryz.prog 155 [.v (.int .u64 e),.v (.int .u64 p)]=some (.dZ [.v (.int .u64 (LO e p).1),.v (.int .i64 (LO e p).2)]):=by
 rw[cL Tryz.func155 rfl aKK rfl];unfold LO;by_cases h:1≤p∧p≤64
 ·have h1:(decide (1≤p) && decide (p≤64))=true:=by simp[h]
  rw[if_pos h];simp only[Z8,seval,aKI,h1,aPW,eC];exact dP rfl rfl rfl (by simp only[E8,seval]<;>rfl) (by simp only[E8,seval]<;>rfl)
 ·have h1:(decide (1≤p) && decide (p≤64))=false:=by
   rw[Bool.eq_false_iff];intro k;simp at k;exact h k
  rw[if_neg h];simp only[Z8,seval,aKI,h1];exact dP rfl rfl rfl (by simp only[E8,seval]<;>rfl) (by simp only[E8,seval]<;>rfl)
theorem aPY (e p:Int) (st:St) (d:Option Nat):aN (aD Tryz.prog) 155 [.v (.int .u64 e),.v (.int .u64 p)] st d=some { dst:=d,val:=.dZ [.v (.int .u64 (LO e p).1),.v (.int .i64 (LO e p).2)]}:=bL (bI (.v _) (.v _)) (aPX e p) (.dZ _ (bI (.v _) (.v _)))
theorem aPZ (n a b:Int):aD Tryz.prog 156 [.v (.int .i64 n),.v (.int .i64 a),.v (.int .i64 b)]=some (.v (.bool (decide (a≤n) && decide (n≤b)))):=by
 rw[cL Tryz.func156 rfl aKL rfl];by_cases h:a≤n
 all_goals
  simp only[Z8,seval,h,decide_true,decide_false,Bool.true_and,Bool.false_and];exact bX rfl (by simp only[E8,seval,h,decide_true,decide_false,Bool.true_and,Bool.false_and]<;>rfl) (.v _)
theorem aP0 (n a b:Int) (st:St) (d:Option Nat):aN (aD Tryz.prog) 156 [.v (.int .i64 n),.v (.int .i64 a),.v (.int .i64 b)] st d=some { dst:=d,val:=.v (.bool (decide (a≤n) && decide (n≤b)))}:=bL (oE (.v _) (.v _) (.v _)) (aPZ n a b) (.v _)
noncomputable def BN (a b:Int):Int × Int:=if IntKind.u64.wrap (18446744073709551615-b)<a then (0,4) else (IntKind.u64.wrap (a+b),0)
theorem aP1 (a b:Int):aD Tryz.prog 196 [.v (.int .u64 a),.v (.int .u64 b)]=some (.dZ [.v (.int .u64 (BN a b).1),.v (.int .i64 (BN a b).2)]):=by
 rw[cL Tryz.func196 rfl aKM rfl];unfold BN;by_cases h:IntKind.u64.wrap (18446744073709551615-b)<a
 ·rw[if_pos h];simp only[Z8,seval,h];exact dP rfl rfl rfl (by simp only[E8,seval]<;>rfl) (by simp only[E8,seval]<;>rfl)
 ·rw[if_neg h];simp only[Z8,seval,h];exact dP rfl rfl rfl (by simp only[E8,seval]<;>rfl) (by simp only[E8,seval]<;>rfl)
theorem aGJ (a b:Int) (st:St) (d:Option Nat):aN (aD Tryz.prog) 196 [.v (.int .u64 a),.v (.int .u64 b)] st d=some { dst:=d,val:=.dZ [.v (.int .u64 (BN a b).1),.v (.int .i64 (BN a b).2)]}:=bL (bI (.v _) (.v _)) (aP1 a b) (.dZ _ (bI (.v _) (.v _)))
theorem DV (l:List Int):∀c∈bF l,fJ c:=by rw[LP];intro c hc;obtain⟨x,_,rfl⟩:=List.mem_map.1 hc;exact .v _
theorem yM {ns:List Node} (h:iB ns) {i:Int} (i0:0≤i) (i1:i<ns.length):i∈path ns i:=by
 by_cases hi:i=0
 ·subst hi;rw[rR (by omega)];simp
 ·rw[rS h (by omega) i1];simp
theorem Wg {ns:List Node} (h:iB ns):∀(k:Nat) (i:Int),i.toNat=k→0≤i→i<ns.length→∀x∈path ns i,0≤x∧x≤i:=by
 intro k;induction k using Nat.strongRecOn with
 | _ k ih =>
   intro i hk i0 i1 x hx;by_cases hi:i=0
   ·subst hi;rw[rR (by omega)] at hx;simp at hx;omega
   ·obtain⟨u0,u1⟩:=h i (by omega) i1
    rw[rS h (by omega) i1] at hx
    rcases List.mem_append.1 hx with hx|hx
    ·have:=ih (nd ns i).up.toNat (by omega) _ rfl u0 (by omega) x hx
     omega
    ·simp at hx;omega
theorem vJ {ns:List Node} (h:iB ns) {i x:Int} (hx:x∈path ns i):0≤x∧x<ns.length:=by
 by_cases hi:0≤i∧i<ns.length
 ·have:=Wg h _ i rfl hi.1 hi.2 x hx;omega
 ·rw[yN hi] at hx;simp at hx
def Ed (ns:List Node) (s:Int) (l:List Int):Int:=l.foldl (fun r x=>if (nd ns x).block.slot≤s then x else r) (-1)
def GG (ns:List Node) (i s:Int):Int:=Ed ns s (path ns i)
theorem Wh (ns:List Node) (s:Int) (l:List Int) (x:Int):Ed ns s (l++[x])=if (nd ns x).block.slot≤s then x else Ed ns s l:=by simp[Ed]
theorem LQ {ns:List Node} {i:Int} (s:Int) (h:¬(0≤i∧i<ns.length)):GG ns i s=-1:=by unfold GG;rw[yN h];rfl
theorem aCF {l:List Int} {j:Int} (j0:0≤j) (j1:j<l.length):l.take (j+1).toNat=l.take j.toNat++[it l j]:=by
 obtain⟨h,e⟩:=xI j0 j1
 rw[e,show (j+1).toNat=j.toNat+1 by omega,List.take_succ_eq_append_getElem h]
theorem Ee {l:List Int} {j:Int} (j0:0≤j) (j1:j<l.length):it l j∈l:=by
 obtain⟨h,e⟩:=xI j0 j1
 rw[e];exact List.getElem_mem h
theorem aP2 (ns:List Node) (hu:iB ns) (hn:(ns.length:Int)<1000000) (i s:Int):aD Tryz.prog 100 [.agg (cU ⟨ns⟩),.v (.int .i64 i),.v (.int .u64 s)]=some (.v (.int .i64 (GG ns i s))):=by
 rw[cL Tryz.func100 rfl aKN rfl];by_cases hv:0≤i∧i<ns.length
 ·have hl:((path ns i).length:Int)<1000000:=by have:=Av hu i;omega
  have hp:=k76 ns hu hn i hv.1 hv.2
  have hrg:∀x∈path ns i,0≤x∧x<ns.length:=fun x=>vJ hu
  unfold GG;generalize path ns i=p at hl hp hrg
  simp only[ZZ,seval,hp];refine lV (fun n st=>∃j:Int,st.env 2=.v (.int .u64 s)∧st.env 3=.ptr 3 0 0∧st.heap 3 0=some (.cells (cU ⟨ns⟩))∧st.env 8=.own 12 0∧st.heap 12 0=some (.row 3 1 p.length (aJ p))∧st.env 9=.v (.int .i64 j)∧st.env 7=.v (.int .i64 (Ed ns s (p.take j.toNat)))∧0≤j∧j≤p.length∧n=(p.length-j).toNat)
   (fun e st=>e=.exit 0∧st.env 7=.v (.int .i64 (Ed ns s p))) p.length ?step ?start ?rest
  case step =>
   rintro n st ⟨j,h2,h3,TH,h8,hh8,h9,h7,j0,j1,Is⟩
   by_cases aZ:j<p.length
   ·have hw:IntKind.i64.wrap (j+1)=j+1:=Gs _ (by omega) (by omega)
    obtain⟨x0,x1⟩:=hrg _ (Ee j0 aZ)
    have ht:=aCF j0 aZ
    by_cases hs:(nd ns (it p j)).block.slot≤s
    ·apply oN ((p.length-(j+1)).toNat)
     ·simp only[ZZ,seval,h2,h3,TH,h8,hh8,h9,aZ,j0,hw,x0,x1,hs];rfl
     ·exact⟨j+1,by simp only[EV,seval,h2],by simp only[EV,seval,h3],by simp only[EV,seval,TH],by simp only[EV,seval,h8],by simp only[EV,seval,hh8],(by simp only[EV,seval]),by simp only[EV,seval,ht,Wh,hs],by omega,by omega,rfl⟩
    ·apply oN ((p.length-(j+1)).toNat)
     ·simp only[ZZ,seval,h2,h3,TH,h8,hh8,h9,aZ,j0,hw,x0,x1,hs];rfl
     ·exact⟨j+1,by simp only[EV,seval,h2],by simp only[EV,seval,h3],by simp only[EV,seval,TH],by simp only[EV,seval,h8],by simp only[EV,seval,hh8],(by simp only[EV,seval]),by simp only[EV,seval,ht,Wh,hs,h7],by omega,by omega,rfl⟩
   ·have ht:p.take j.toNat=p:=List.take_of_length_le (by omega)
    apply oT (.exit 0)
    ·simp only[ZZ,seval,h2,h3,TH,h8,hh8,h9,aZ,j0];rfl
    ·exact⟨rfl,by rw[← ht];exact h7⟩
  case start=>exact⟨0,(by simp only[EV,seval]),(by simp only[EV,seval]),(by simp only[EV,seval]),(by simp only[EV,seval]),(by simp only[EV,seval]),(by simp only[EV,seval]),(by simp only[EV,seval];rfl),by omega,by omega,by omega⟩
  case rest =>
   rintro e st ⟨rfl,h⟩
   simp only[ZZ,seval,h];exact bX rfl (by simp only[EV,seval]) (.v _)
 ·rw[LQ s hv];simp only[ZZ,seval,z8 ns i hv,Gu,Int.natCast_zero,Int.lt_irrefl,decide_false];exact bX rfl (by simp only[EV,seval]) (.v _)
theorem LR (ns:List Node) (hu:iB ns) (hn:(ns.length:Int)<1000000) (i s:Int) (st:St) (d:Option Nat):aN (aD Tryz.prog) 100 [.agg (cU ⟨ns⟩),.v (.int .i64 i),.v (.int .u64 s)] st d=some { dst:=d,val:=.v (.int .i64 (GG ns i s))}:=bL (oE (nC _) (.v _) (.v _)) (aP2 ns hu hn i s) (.v _)
theorem aGL {ns:List Node} (hu:iB ns) {a c:Int} (h1:c<ns.length) (h:a<c) (a0:0≤a):Aw ns a c=Aw ns a (nd ns c).up:=by
 unfold Aw;rw[decide_eq_decide,rS hu (by omega) h1]
 simp only[List.mem_append,List.mem_singleton];constructor
 ·rintro (hm|rfl)
  ·exact hm
  ·omega
 ·exact .inl
theorem z9 {ns:List Node} (hu:iB ns) {a c:Int} (h:¬((0≤a∧a<ns.length)∧(0≤c∧c<ns.length))):Aw ns a c=false:=by
 unfold Aw;rw[decide_eq_false_iff_not];intro hm;by_cases hc:0≤c∧c<ns.length
 ·exact h ⟨vJ hu hm,hc⟩
 ·rw[yN hc] at hm;simp at hm
theorem Wi {ns:List Node} (hu:iB ns) {a c:Int} (h:Aw ns a c=true):(0≤a∧a<ns.length)∧(0≤c∧c<ns.length):=by
 by_cases hv:(0≤a∧a<ns.length)∧(0≤c∧c<ns.length)
 ·exact hv
 ·rw[z9 hu hv] at h;cases h
theorem P0 {ns:List Node} (hu:iB ns) {a c:Int} (h:Aw ns a c=true):a≤c:=by
 have hr:=(Wi hu h).2
 unfold Aw at h;exact (Wg hu _ c rfl hr.1 hr.2 a (of_decide_eq_true h)).2
theorem aP3 (a b:List Node) (hn:(a.length:Int)<1000000):aD Tryz.prog 106 [.agg (cU ⟨a⟩),.agg (cU ⟨b⟩)]=some (.v (.bool (decide (a=b)))):=by
 rw[cL Tryz.func106 rfl aKQ rfl];by_cases hlen:a.length=b.length
 ·have hq:((a.length:Int) != (b.length:Int))=false:=by simp[hlen]
  simp only[ZZ,seval,hq];refine lV (fun n st=>∃i:Int,st.env 2=.ptr 2 0 0∧st.env 3=.ptr 3 0 0∧st.heap 2 0=some (.cells (cU ⟨a⟩))∧st.heap 3 0=some (.cells (cU ⟨b⟩))∧st.env 5=.v (.int .i64 i)∧0≤i∧i≤a.length∧n=(a.length-i).toNat∧∀j,0≤j→j<i→nd a j=nd b j)
   (fun e st=>(e=.ret∧st.env 4=.v (.bool (decide (a=b))))∨(e=.exit 0∧decide (a=b)=true)) a.length ?step ?start ?rest
  case step =>
   rintro n st ⟨i,h2,h3,uX,TH,h5,i0,i1,Is,hb⟩
   by_cases aZ:i<a.length
   ·have hw:IntKind.i64.wrap (i+1)=i+1:=Gs _ (by omega) (by omega)
    have LJ:i<b.length:=by omega
    by_cases hr:nd a i=nd b i
    ·have hbq:decide (nd a i=nd b i)=true:=by simp[hr]
     apply oN ((a.length-(i+1)).toNat)
     ·simp only[ZZ,seval,h2,h3,uX,TH,h5,aZ,LJ,i0,hbq,hw];rfl
     ·exact⟨i+1,by simp only[EV,seval,h2],by simp only[EV,seval,h3],by simp only[EV,seval,uX],by simp only[EV,seval,TH],(by simp only[EV,seval]),by omega,by omega,rfl,fun j j0 j1=>by
      rcases Int.lt_or_eq_of_le (show j≤i by omega) with h|rfl
      ·exact hb j j0 h
      ·exact hr⟩
    ·have hbq:decide (nd a i=nd b i)=false:=by simp[hr]
     have hd:decide (a=b)=false:=by rw[decide_eq_false_iff_not];intro h;exact hr (by rw[h])
     apply oT (.ret)
     ·simp only[ZZ,seval,h2,h3,uX,TH,h5,aZ,LJ,i0,hbq];rfl
     ·exact .inl ⟨rfl,by simp only[EV,seval,hd]⟩
   ·apply oT (.exit 0)
    ·simp only[ZZ,seval,h2,h3,uX,TH,h5,aZ,i0];rfl
    ·exact .inr ⟨rfl,by
     rw[decide_eq_true_eq];apply List.ext_getElem hlen
     intro j h1 h2;have:=hb j (by omega) (by omega)
     simpa [nd,h1,h2] using this⟩
  case start=>exact⟨0,(by simp only[EV,seval]),(by simp only[EV,seval]),(by simp only[EV,seval]),(by simp only[EV,seval]),(by simp only[EV,seval]),by omega,by omega,by omega,fun j _ _=>by omega⟩
  case rest =>
   rintro e st (⟨rfl,h⟩|⟨rfl,h⟩)
   ·simp only[ZZ,seval];exact bX rfl h (.v _)
   ·simp only[ZZ,seval];exact bX rfl (by simp only[EV,seval,h]) (.v _)
 ·have hq:((a.length:Int) != (b.length:Int))=true:=by simp;omega
  have hd:decide (a=b)=false:=by rw[decide_eq_false_iff_not];intro h;exact hlen (by rw[h])
  simp only[ZZ,seval,hq];exact bX rfl (by simp only[EV,seval,hd]) (.v _)
theorem aP4 (a b:List Node) (hn:(a.length:Int)<1000000) (st:St) (d:Option Nat):aN (aD Tryz.prog) 106 [.agg (cU ⟨a⟩),.agg (cU ⟨b⟩)] st d=some { dst:=d,val:=.v (.bool (decide (a=b)))}:=bL (bI (nC _) (nC _)) (aP3 a b hn) (.v _)
def oQ (ns:List Node) (i:Int):Nat→List Node × List Int
 | 0=>([],[])
 | k+1 =>
   let p:=oQ ns i k
   if Aw ns i k=true then (p.1++[{ nd ns k with up:=if (k:Int)=i then -1 else it p.2 (nd ns k).up }],p.2++[(p.1.length:Int)]) else (p.1,p.2++[-1])
theorem Ef (ns:List Node) (i:Int):∀k,(oQ ns i k).2.length=k
 | 0=>rfl
 | k+1=>by
   have:=Ef ns i k
   simp only[oQ];split<;>simp[this]
theorem Qg (ns:List Node) (i:Int):∀k,(oQ ns i k).1.length≤k
 | 0=>Nat.le_refl _
 | k+1=>by
   have:=Qg ns i k
   simp only[oQ];split
   ·simp;exact this
   ·simp;omega
theorem mG {l m:List Int} {j:Int} (h0:0≤j) (h1:j<l.length):it (l++m) j=it l j:=by
 have:j.toNat<l.length:=by omega
 simp[it,List.getElem?_append_left this]
theorem Co {l:List Int} {x:Int} {j:Int} (h:j=l.length):it (l++[x]) j=x:=by
 subst h;simp[it]
theorem Iu {l m:List Node} {j:Int} (h0:0≤j) (h1:j<l.length):nd (l++m) j=nd l j:=by
 have:j.toNat<l.length:=by omega
 simp[nd,List.getElem?_append_left this]
theorem DW {l:List Node} {x:Node} {j:Int} (h:j=l.length):nd (l++[x]) j=x:=by
 subst h;simp[nd]
theorem LS {ns:List Node} (hu:iB ns) {i:Int} (i0:0≤i) (i1:i<ns.length):Aw ns i i=true:=by
 unfold Aw;rw[decide_eq_true_eq];by_cases h:i=0
 ·subst h;rw[rR (by omega)];simp
 ·rw[rS hu (by omega) i1];simp
theorem LU {ns:List Node} {a:Int} (h:0<ns.length):Aw ns a 0=decide (a=0):=by
 unfold Aw;rw[rR h];simp
theorem aGN (ns:List Node) (hu:iB ns) {i:Int} (i0:0≤i) (i1:i<ns.length):(oQ ns i ns.length).1≠[]:=by
 have main:∀k:Nat,i<k→k≤ns.length→(oQ ns i k).1≠[]:=by
  intro k;induction k with
  | zero=>intro h;omega
  | succ k ih =>
    intro h1 h2;by_cases hk:i<k
    ·have:=ih hk (by omega)
     simp only[oQ];split
     ·simp
     ·exact this
    ·have hki:i=k:=by omega
     have:Aw ns i k=true:=by rw[← hki];exact LS hu i0 i1
     simp[oQ,this]
 exact main ns.length i1 (Nat.le_refl _)
def aKR (st:St) (s1 s2:Nat) (y:AV) (l:List Int):Prop :=
 (y=.v (.slice none 0 0)∧l=[])∨(∃g,y=.own s1 g∧g<st.aO s1∧st.heap s1 g=some (.row 3 1 l.length (aJ l)))∨(∃g,y=.own s2 g∧g<st.aO s2∧st.heap s2 g=some (.row 3 1 l.length (aJ l)))
def aKS (st:St) (s1:Nat) (x:AV) (l:List Node):Prop :=
 (x=.v (.slice none 0 0)∧l=[])∨(∃g,x=.own s1 g∧g<st.aO s1∧st.heap s1 g=some (.row 76 240 l.length (cF l)))
theorem c34 (ns:List Node) (hu:iB ns) (hn:(ns.length:Int)<1000000) (i:Int) (i0:0≤i) (i1:i<ns.length):aD Tryz.prog 34 [.agg (cU ⟨ns⟩),.v (.int .i64 i)] =
 some (.dZ [.agg (cU ⟨(oQ ns i ns.length).1⟩),.sl (oQ ns i ns.length).2.length (aJ (oQ ns i ns.length).2),.v (.int .i64 0)]):=by
 have hd:(decide (0≤i) && decide (i<ns.length))=true:=by simp[i0,i1]
 rw[cL Tryz.func34 rfl aP5 rfl];simp only[ZZ,seval,SR,hd];refine lV (fun n st=>∃(k:Nat) (x y:AV),st.env 2=.ptr 2 0 0∧st.heap 2 0=some (.cells (cU ⟨ns⟩))∧st.env 4=.ptr 4 0 0∧st.heap 4 0=some (.cells [.v (.slice none 0 0)])∧st.env 7=.ptr 7 0 0∧st.heap 7 0=some (.cells [x]) ∧
  st.env 1=.v (.int .i64 i)∧st.env 9=.v (.int .i64 k)∧k≤ns.length∧n=ns.length-k∧st.env 8=y∧aKR st 30 51 y (oQ ns i k).2∧aKS st 56 x (oQ ns i k).1)
  (fun e st=>e=.exit 0∧∃(x y:AV),st.env 4=.ptr 4 0 0∧st.heap 4 0=some (.cells [.v (.slice none 0 0)])∧st.env 7=.ptr 7 0 0∧st.heap 7 0=some (.cells [x])∧st.env 8=y∧aKR st 30 51 y (oQ ns i ns.length).2∧aKS st 56 x (oQ ns i ns.length).1) ns.length ?step ?start ?rest
 case step =>
  rintro n st ⟨k,x,y,h2,uX,h4,Eg,h7,Fz,h1,h9,hk,Is,h8,hy,hx⟩
  have hlen:=Ef ns i k
  have hlen2:=Qg ns i k
  have Qd:((oQ ns i k).2.length:Int)<1000000:=by omega
  have A0:((oQ ns i k).1.length:Int)<1000000:=by omega
  by_cases aZ:(k:Int)<ns.length
  ·have hw:IntKind.i64.wrap ((k:Int)+1)=((k+1:Nat):Int):=by rw[Gs _ (by omega) (by omega)];simp
   have k0:(0:Int)≤k:=by omega
   by_cases Nb:Aw ns i k=true
   ·have hs:oQ ns i (k+1)=((oQ ns i k).1++[{ nd ns k with up:=if (k:Int)=i then -1 else it (oQ ns i k).2 (nd ns k).up }],(oQ ns i k).2++[((oQ ns i k).1.length:Int)]):=by simp only[oQ,Nb,if_true]
    have upb:(k:Int)≠i→0≤(nd ns k).up∧(nd ns k).up<(oQ ns i k).2.length:=fun gT=>by
     rcases Nat.eq_zero_or_pos k with h0|h0
     ·subst h0;rw[show ((0:Nat):Int)=0 from rfl,LU (by omega)] at Nb
      simp at Nb
      omega
     ·have:=hu k (by omega) aZ
      rw[hlen];omega
    by_cases hki:(k:Int)=i
    ·have hq:((k:Int) == i)=true:=by simp[hki]
     rw[if_pos hki] at hs;rcases hy with ⟨rfl,hy⟩|⟨g,rfl,hg,hy⟩|⟨g,rfl,hg,hy⟩<;>rcases hx with ⟨rfl,hx⟩|⟨g',rfl,TJ,hx⟩
     ·rw[hy,hx] at hs;apply oN ((ns.length-(k+1)))
      ·simp only[ZZ,seval,h2,uX,h4,Eg,h7,Fz,h1,h9,h8,aZ,k0,Nc ns hu hn,Nb,hw,hq];rfl
      ·exact⟨k+1,_,_,(by simp only[EV,seval,h2]),(by simp only[EV,seval,uX]),(by simp only[EV,seval,h4]),(by simp only[EV,seval,Eg]),(by simp only[EV,seval,h7]),(by simp only[EV,seval];rfl),(by simp only[EV,seval,h1]),(by simp only[EV,seval]),by omega,by omega,(by simp only[EV,seval];rfl),(by rw[hs];(try simp only[List.nil_append]);exact .inr (.inr ⟨_,rfl,(by simp only[EV,seval]<;>omega),(by simp only[EV,seval]<;>rfl)⟩)),(by rw[hs];(try simp only[List.nil_append]);exact .inr ⟨_,rfl,(by simp only[EV,seval]<;>omega),(by simp only[EV,seval]<;>rfl)⟩)⟩
     ·rw[hy] at hs;apply oN ((ns.length-(k+1)))
      ·simp only[ZZ,seval,h2,uX,h4,Eg,h7,Fz,h1,h9,h8,aZ,k0,Nc ns hu hn,Nb,hw,hq,hx,A0];rfl
      ·exact⟨k+1,_,_,(by simp only[EV,seval,h2]),(by simp only[EV,seval,uX]),(by simp only[EV,seval,h4]),(by simp only[EV,seval,Eg]),(by simp only[EV,seval,h7]),(by simp only[EV,seval];rfl),(by simp only[EV,seval,h1]),(by simp only[EV,seval]),by omega,by omega,(by simp only[EV,seval];rfl),(by rw[hs];(try simp only[List.nil_append]);exact .inr (.inr ⟨_,rfl,(by simp only[EV,seval]<;>omega),(by simp only[EV,seval]<;>rfl)⟩)),(by rw[hs];(try simp only[List.nil_append]);exact .inr ⟨_,rfl,(by simp only[EV,seval]<;>omega),(by simp only[EV,seval]<;>rfl)⟩)⟩
     ·rw[hx] at hs;apply oN ((ns.length-(k+1)))
      ·simp only[ZZ,seval,h2,uX,h4,Eg,h7,Fz,h1,h9,h8,aZ,k0,Nc ns hu hn,Nb,hw,hq,hy,Qd];rfl
      ·exact⟨k+1,_,_,(by simp only[EV,seval,h2]),(by simp only[EV,seval,uX]),(by simp only[EV,seval,h4]),(by simp only[EV,seval,Eg]),(by simp only[EV,seval,h7]),(by simp only[EV,seval];rfl),(by simp only[EV,seval,h1]),(by simp only[EV,seval]),by omega,by omega,(by simp only[EV,seval];rfl),(by rw[hs];(try simp only[List.nil_append]);exact .inr (.inr ⟨_,rfl,(by simp only[EV,seval]<;>omega),(by simp only[EV,seval]<;>rfl)⟩)),(by rw[hs];(try simp only[List.nil_append]);exact .inr ⟨_,rfl,(by simp only[EV,seval]<;>omega),(by simp only[EV,seval]<;>rfl)⟩)⟩
     ·apply oN ((ns.length-(k+1)))
      ·simp only[ZZ,seval,h2,uX,h4,Eg,h7,Fz,h1,h9,h8,aZ,k0,Nc ns hu hn,Nb,hw,hq,hy,Qd,hx,A0];rfl
      ·exact⟨k+1,_,_,(by simp only[EV,seval,h2]),(by simp only[EV,seval,uX]),(by simp only[EV,seval,h4]),(by simp only[EV,seval,Eg]),(by simp only[EV,seval,h7]),(by simp only[EV,seval];rfl),(by simp only[EV,seval,h1]),(by simp only[EV,seval]),by omega,by omega,(by simp only[EV,seval];rfl),(by rw[hs];(try simp only[List.nil_append]);exact .inr (.inr ⟨_,rfl,(by simp only[EV,seval]<;>omega),(by simp only[EV,seval]<;>rfl)⟩)),(by rw[hs];(try simp only[List.nil_append]);exact .inr ⟨_,rfl,(by simp only[EV,seval]<;>omega),(by simp only[EV,seval]<;>rfl)⟩)⟩
     ·rw[hx] at hs;apply oN ((ns.length-(k+1)))
      ·simp only[ZZ,seval,h2,uX,h4,Eg,h7,Fz,h1,h9,h8,aZ,k0,Nc ns hu hn,Nb,hw,hq,hy,Qd];rfl
      ·exact⟨k+1,_,_,(by simp only[EV,seval,h2]),(by simp only[EV,seval,uX]),(by simp only[EV,seval,h4]),(by simp only[EV,seval,Eg]),(by simp only[EV,seval,h7]),(by simp only[EV,seval];rfl),(by simp only[EV,seval,h1]),(by simp only[EV,seval]),by omega,by omega,(by simp only[EV,seval];rfl),(by rw[hs];(try simp only[List.nil_append]);exact .inr (.inr ⟨_,rfl,(by simp only[EV,seval]<;>omega),(by simp only[EV,seval]<;>rfl)⟩)),(by rw[hs];(try simp only[List.nil_append]);exact .inr ⟨_,rfl,(by simp only[EV,seval]<;>omega),(by simp only[EV,seval]<;>rfl)⟩)⟩
     ·apply oN ((ns.length-(k+1)))
      ·simp only[ZZ,seval,h2,uX,h4,Eg,h7,Fz,h1,h9,h8,aZ,k0,Nc ns hu hn,Nb,hw,hq,hy,Qd,hx,A0];rfl
      ·exact⟨k+1,_,_,(by simp only[EV,seval,h2]),(by simp only[EV,seval,uX]),(by simp only[EV,seval,h4]),(by simp only[EV,seval,Eg]),(by simp only[EV,seval,h7]),(by simp only[EV,seval];rfl),(by simp only[EV,seval,h1]),(by simp only[EV,seval]),by omega,by omega,(by simp only[EV,seval];rfl),(by rw[hs];(try simp only[List.nil_append]);exact .inr (.inr ⟨_,rfl,(by simp only[EV,seval]<;>omega),(by simp only[EV,seval]<;>rfl)⟩)),(by rw[hs];(try simp only[List.nil_append]);exact .inr ⟨_,rfl,(by simp only[EV,seval]<;>omega),(by simp only[EV,seval]<;>rfl)⟩)⟩
    ·have hq:((k:Int) == i)=false:=by simp[hki]
     obtain⟨u0,u1⟩:=upb hki
     rw[if_neg hki] at hs;rcases hy with ⟨rfl,hy⟩|⟨g,rfl,hg,hy⟩|⟨g,rfl,hg,hy⟩<;>rcases hx with ⟨rfl,hx⟩|⟨g',rfl,TJ,hx⟩
     ·exfalso;rw[hy] at u1;simp at u1;omega
     ·exfalso;rw[hy] at u1;simp at u1;omega
     ·rw[hx] at hs;apply oN ((ns.length-(k+1)))
      ·simp only[ZZ,seval,h2,uX,h4,Eg,h7,Fz,h1,h9,h8,aZ,k0,Nc ns hu hn,Nb,hw,hq,u0,u1,hy,Qd];rfl
      ·exact⟨k+1,_,_,(by simp only[EV,seval,h2]),(by simp only[EV,seval,uX]),(by simp only[EV,seval,h4]),(by simp only[EV,seval,Eg]),(by simp only[EV,seval,h7]),(by simp only[EV,seval];rfl),(by simp only[EV,seval,h1]),(by simp only[EV,seval]),by omega,by omega,(by simp only[EV,seval];rfl),(by rw[hs];(try simp only[List.nil_append]);exact .inr (.inr ⟨_,rfl,(by simp only[EV,seval]<;>omega),(by simp only[EV,seval]<;>rfl)⟩)),(by rw[hs];(try simp only[List.nil_append]);exact .inr ⟨_,rfl,(by simp only[EV,seval]<;>omega),(by simp only[EV,seval]<;>rfl)⟩)⟩
     ·apply oN ((ns.length-(k+1)))
      ·simp only[ZZ,seval,h2,uX,h4,Eg,h7,Fz,h1,h9,h8,aZ,k0,Nc ns hu hn,Nb,hw,hq,u0,u1,hy,Qd,hx,A0];rfl
      ·exact⟨k+1,_,_,(by simp only[EV,seval,h2]),(by simp only[EV,seval,uX]),(by simp only[EV,seval,h4]),(by simp only[EV,seval,Eg]),(by simp only[EV,seval,h7]),(by simp only[EV,seval];rfl),(by simp only[EV,seval,h1]),(by simp only[EV,seval]),by omega,by omega,(by simp only[EV,seval];rfl),(by rw[hs];(try simp only[List.nil_append]);exact .inr (.inr ⟨_,rfl,(by simp only[EV,seval]<;>omega),(by simp only[EV,seval]<;>rfl)⟩)),(by rw[hs];(try simp only[List.nil_append]);exact .inr ⟨_,rfl,(by simp only[EV,seval]<;>omega),(by simp only[EV,seval]<;>rfl)⟩)⟩
     ·rw[hx] at hs;apply oN ((ns.length-(k+1)))
      ·simp only[ZZ,seval,h2,uX,h4,Eg,h7,Fz,h1,h9,h8,aZ,k0,Nc ns hu hn,Nb,hw,hq,u0,u1,hy,Qd];rfl
      ·exact⟨k+1,_,_,(by simp only[EV,seval,h2]),(by simp only[EV,seval,uX]),(by simp only[EV,seval,h4]),(by simp only[EV,seval,Eg]),(by simp only[EV,seval,h7]),(by simp only[EV,seval];rfl),(by simp only[EV,seval,h1]),(by simp only[EV,seval]),by omega,by omega,(by simp only[EV,seval];rfl),(by rw[hs];(try simp only[List.nil_append]);exact .inr (.inr ⟨_,rfl,(by simp only[EV,seval]<;>omega),(by simp only[EV,seval]<;>rfl)⟩)),(by rw[hs];(try simp only[List.nil_append]);exact .inr ⟨_,rfl,(by simp only[EV,seval]<;>omega),(by simp only[EV,seval]<;>rfl)⟩)⟩
     ·apply oN ((ns.length-(k+1)))
      ·simp only[ZZ,seval,h2,uX,h4,Eg,h7,Fz,h1,h9,h8,aZ,k0,Nc ns hu hn,Nb,hw,hq,u0,u1,hy,Qd,hx,A0];rfl
      ·exact⟨k+1,_,_,(by simp only[EV,seval,h2]),(by simp only[EV,seval,uX]),(by simp only[EV,seval,h4]),(by simp only[EV,seval,Eg]),(by simp only[EV,seval,h7]),(by simp only[EV,seval];rfl),(by simp only[EV,seval,h1]),(by simp only[EV,seval]),by omega,by omega,(by simp only[EV,seval];rfl),(by rw[hs];(try simp only[List.nil_append]);exact .inr (.inr ⟨_,rfl,(by simp only[EV,seval]<;>omega),(by simp only[EV,seval]<;>rfl)⟩)),(by rw[hs];(try simp only[List.nil_append]);exact .inr ⟨_,rfl,(by simp only[EV,seval]<;>omega),(by simp only[EV,seval]<;>rfl)⟩)⟩
   ·have Wj:Aw ns i k=false:=by simpa using Nb
    have hs:oQ ns i (k+1)=((oQ ns i k).1,(oQ ns i k).2++[-1]):=by simp[oQ,Wj]
    rcases hy with ⟨rfl,hy⟩|⟨g,rfl,hg,hy⟩|⟨g,rfl,hg,hy⟩<;>rcases hx with ⟨rfl,hx⟩|⟨g',rfl,TJ,hx⟩
    ·rw[hy,hx] at hs;apply oN ((ns.length-(k+1)))
     ·simp only[ZZ,seval,h2,uX,h4,Eg,h7,Fz,h1,h9,h8,aZ,k0,Nc ns hu hn,Wj,hw];rfl
     ·exact⟨k+1,_,_,(by simp only[EV,seval,h2]),(by simp only[EV,seval,uX]),(by simp only[EV,seval,h4]),(by simp only[EV,seval,Eg]),(by simp only[EV,seval,h7]),(by simp only[EV,seval,Fz];rfl),(by simp only[EV,seval,h1]),(by simp only[EV,seval]),by omega,by omega,(by simp only[EV,seval];rfl),(by rw[hs];(try simp only[List.nil_append]);exact .inr (.inl ⟨_,rfl,(by simp only[EV,seval]<;>omega),(by simp only[EV,seval]<;>rfl)⟩)),(by rw[hs];exact .inl ⟨rfl,rfl⟩)⟩
    ·rw[hy] at hs;apply oN ((ns.length-(k+1)))
     ·simp only[ZZ,seval,h2,uX,h4,Eg,h7,Fz,h1,h9,h8,aZ,k0,Nc ns hu hn,Wj,hw,hx,A0];rfl
     ·exact⟨k+1,_,_,(by simp only[EV,seval,h2]),(by simp only[EV,seval,uX]),(by simp only[EV,seval,h4]),(by simp only[EV,seval,Eg]),(by simp only[EV,seval,h7]),(by simp only[EV,seval,Fz];rfl),(by simp only[EV,seval,h1]),(by simp only[EV,seval]),by omega,by omega,(by simp only[EV,seval];rfl),(by rw[hs];(try simp only[List.nil_append]);exact .inr (.inl ⟨_,rfl,(by simp only[EV,seval]<;>omega),(by simp only[EV,seval]<;>rfl)⟩)),(by rw[hs];exact .inr ⟨_,rfl,(by simp only[EV,seval]<;>omega),(by simp only[EV,seval,hx])⟩)⟩
    ·rw[hx] at hs;apply oN ((ns.length-(k+1)))
     ·simp only[ZZ,seval,h2,uX,h4,Eg,h7,Fz,h1,h9,h8,aZ,k0,Nc ns hu hn,Wj,hw,hy,Qd];rfl
     ·exact⟨k+1,_,_,(by simp only[EV,seval,h2]),(by simp only[EV,seval,uX]),(by simp only[EV,seval,h4]),(by simp only[EV,seval,Eg]),(by simp only[EV,seval,h7]),(by simp only[EV,seval,Fz];rfl),(by simp only[EV,seval,h1]),(by simp only[EV,seval]),by omega,by omega,(by simp only[EV,seval];rfl),(by rw[hs];(try simp only[List.nil_append]);exact .inr (.inl ⟨_,rfl,(by simp only[EV,seval]<;>omega),(by simp only[EV,seval]<;>rfl)⟩)),(by rw[hs];exact .inl ⟨rfl,rfl⟩)⟩
    ·apply oN ((ns.length-(k+1)))
     ·simp only[ZZ,seval,h2,uX,h4,Eg,h7,Fz,h1,h9,h8,aZ,k0,Nc ns hu hn,Wj,hw,hy,Qd,hx,A0];rfl
     ·exact⟨k+1,_,_,(by simp only[EV,seval,h2]),(by simp only[EV,seval,uX]),(by simp only[EV,seval,h4]),(by simp only[EV,seval,Eg]),(by simp only[EV,seval,h7]),(by simp only[EV,seval,Fz];rfl),(by simp only[EV,seval,h1]),(by simp only[EV,seval]),by omega,by omega,(by simp only[EV,seval];rfl),(by rw[hs];(try simp only[List.nil_append]);exact .inr (.inl ⟨_,rfl,(by simp only[EV,seval]<;>omega),(by simp only[EV,seval]<;>rfl)⟩)),(by rw[hs];exact .inr ⟨_,rfl,(by simp only[EV,seval]<;>omega),(by simp only[EV,seval,hx])⟩)⟩
    ·rw[hx] at hs;apply oN ((ns.length-(k+1)))
     ·simp only[ZZ,seval,h2,uX,h4,Eg,h7,Fz,h1,h9,h8,aZ,k0,Nc ns hu hn,Wj,hw,hy,Qd];rfl
     ·exact⟨k+1,_,_,(by simp only[EV,seval,h2]),(by simp only[EV,seval,uX]),(by simp only[EV,seval,h4]),(by simp only[EV,seval,Eg]),(by simp only[EV,seval,h7]),(by simp only[EV,seval,Fz];rfl),(by simp only[EV,seval,h1]),(by simp only[EV,seval]),by omega,by omega,(by simp only[EV,seval];rfl),(by rw[hs];(try simp only[List.nil_append]);exact .inr (.inl ⟨_,rfl,(by simp only[EV,seval]<;>omega),(by simp only[EV,seval]<;>rfl)⟩)),(by rw[hs];exact .inl ⟨rfl,rfl⟩)⟩
    ·apply oN ((ns.length-(k+1)))
     ·simp only[ZZ,seval,h2,uX,h4,Eg,h7,Fz,h1,h9,h8,aZ,k0,Nc ns hu hn,Wj,hw,hy,Qd,hx,A0];rfl
     ·exact⟨k+1,_,_,(by simp only[EV,seval,h2]),(by simp only[EV,seval,uX]),(by simp only[EV,seval,h4]),(by simp only[EV,seval,Eg]),(by simp only[EV,seval,h7]),(by simp only[EV,seval,Fz];rfl),(by simp only[EV,seval,h1]),(by simp only[EV,seval]),by omega,by omega,(by simp only[EV,seval];rfl),(by rw[hs];(try simp only[List.nil_append]);exact .inr (.inl ⟨_,rfl,(by simp only[EV,seval]<;>omega),(by simp only[EV,seval]<;>rfl)⟩)),(by rw[hs];exact .inr ⟨_,rfl,(by simp only[EV,seval]<;>omega),(by simp only[EV,seval,hx])⟩)⟩
  ·have Dv:k=ns.length:=by omega
   subst Dv;apply oT (.exit 0)
   ·simp only[ZZ,seval,h2,uX,h4,Eg,h7,Fz,h1,h9,h8,aZ];rfl
   ·exact⟨rfl,x,y,(by simp only[EV,seval,h4]),(by simp only[EV,seval,Eg]),(by simp only[EV,seval,h7]),(by simp only[EV,seval,Fz]),(by simp only[EV,seval,h8]),hy,hx⟩
 case start=>exact⟨0,_,_,(by simp only[EV,seval]),(by simp only[EV,seval]),(by simp only[EV,seval]),(by simp only[EV,seval]),(by simp only[EV,seval]),(by simp only[EV,seval]<;>rfl),(by simp only[EV,seval]),(by simp only[EV,seval]<;>rfl),by omega,by omega,(by simp only[EV,seval]<;>rfl),.inl ⟨rfl,rfl⟩,.inl ⟨rfl,rfl⟩⟩
 case rest =>
  rintro e st ⟨rfl,x,y,h4,Eg,h7,Fz,h8,hy,hx⟩
  have hlen:=Ef ns i ns.length
  have gT:=aGN ns hu i0 i1
  rcases hy with ⟨rfl,hy⟩|⟨g,rfl,hg,hy⟩|⟨g,rfl,hg,hy⟩<;>rcases hx with ⟨rfl,hx⟩|⟨g',rfl,TJ,hx⟩
  ·exact absurd hx gT
  ·rw[hy] at hlen;simp at hlen;omega
  ·exact absurd hx gT
  ·simp only[ZZ,seval,h4,Eg,h7,Fz,h8];exact gU rfl (by simp only[bY,ZZ,seval,h4,Eg,h7,Fz,h8];rfl) (by simp only[bY,EV,seval]<;>rfl) (by simp only[bY,EV,seval]<;>rfl) (by simp only[EV,seval,hx,Option.map_some]<;>rfl) (by simp only[EV,seval,hy]) (by simp only[EV,seval])
  ·exact absurd hx gT
  ·simp only[ZZ,seval,h4,Eg,h7,Fz,h8];exact gU rfl (by simp only[bY,ZZ,seval,h4,Eg,h7,Fz,h8];rfl) (by simp only[bY,EV,seval]<;>rfl) (by simp only[bY,EV,seval]<;>rfl) (by simp only[EV,seval,hx,Option.map_some]<;>rfl) (by simp only[EV,seval,hy]) (by simp only[EV,seval])
theorem A1 {P:Program} {b:Code} {st:St} {k:Ex × St→Option (Ex × St)} {R:Ex→St→Prop} (Inv:Nat→St→Prop) (Q:Ex→St→Prop) (n:Nat)
 (step:∀n st,Inv n st→∃e st',zF P b st=some (e,st')∧((e=.normal∧∃m,m<n∧Inv m st')∨(e≠.normal∧Q e st')))
 (start:Inv n st) (rest:∀e st',Q e st'→∃e' P1,k (e,st')=some (e',P1)∧R e' P1):∃e' P1,cC (zF P (.loop b) st) k=some (e',P1)∧R e' P1:=by
 obtain⟨e,s1,h1,h2,h3⟩:=Qh Inv Q step n st start
 rw[h1];exact rest e s1 h3
theorem P2 {x:Option (Ex × St)} {st':St} {n:Nat} {Inv:Nat→St→Prop} {Q:Ex→St→Prop} (h:x=some (.normal,st')) (m:Nat) (hm:m<n) (hi:Inv m st') :
 ∃e st',x=some (e,st')∧((e=.normal∧∃m,m<n∧Inv m st')∨(e≠.normal∧Q e st')):=⟨_,_,h,.inl ⟨rfl,m,hm,hi⟩⟩
theorem A2 {call:Nat→List AV→Option AV} {ops:Array Oper} {st:St} {T:Nat} {pos:String} {eM:Array Edge} (d:Nat) (x y:Operand) {a b:Int} (h1:st.ev x=.v (.int .i64 a)) (h2:st.ev y=.v (.int .i64 b)):cE Tryz.prog call ops ⟨some d,.buildSlice 22 2 #[(0,x),(1,y)],T,pos,eM,none⟩ st =
 some ((st.new d (.row 3 1 2 (aJ [a,b]))).put (some d) (.own d (st.aO d))):=by
 rw[lB];simp[Kz,ze3,cC,h1,h2,AV.jR,Value.oneCell',gN,AV.cells,List.range,List.range.loop,aJ,qA]
theorem Eh {call:Nat→List AV→Option AV} {ops:Array Oper} {st:St} {T:Nat} {pos:String} {eM:Array Edge} (d:Nat) (x y:Operand):cE Tryz.prog call ops ⟨some d,.buildSlice 22 2 #[(0,x),(1,y)],T,pos,eM,none⟩ st =
 La (st.ev x) (fun a=>La (st.ev y) (fun b=>some ((st.new d (.row 3 1 2 (aJ [a,b]))).put (some d) (.own d (st.aO d)))) (cE Tryz.prog call ops ⟨some d,.buildSlice 22 2 #[(0,x),(1,y)],T,pos,eM,none⟩ st))
  (cE Tryz.prog call ops ⟨some d,.buildSlice 22 2 #[(0,x),(1,y)],T,pos,eM,none⟩ st):=by
 unfold La;split
 ·rename_i a h1;try dsimp only
  split
  ·rename_i b h2;exact A2 d x y h1 h2
  ·rfl
 ·rfl
def Ga (ns:List Node) (i:Int):Nat→List Int
 | 0=>[]
 | k+1=>if Aw ns i k=true then Ga ns i k++[(k:Int)] else Ga ns i k
theorem Vc (ns:List Node) (i:Int):∀k,(Ga ns i k).length≤k
 | 0=>Nat.le_refl _
 | k+1=>by
   have:=Vc ns i k
   simp only[Ga];split
   ·simp;omega
   ·omega
theorem TK {ns:List Node} (hu:iB ns) {i:Int} (i0:0≤i) (i1:i<ns.length):∀k:Nat,i<k→Ga ns i k≠[]
 | 0,h=>by omega
 | k+1,h=>by
   simp only[Ga];by_cases hk:i=k
   ·rw[if_pos (by unfold Aw;rw[← hk];exact decide_eq_true (yM hu i0 i1))];simp
   ·have:=TK hu i0 i1 k (by omega)
    split
    ·simp
    ·exact this
theorem YP (ns:List Node) (i x:Int):∀k:Nat,x∈Ga ns i k↔(0≤x∧x<k)∧Aw ns i x=true
 | 0=>by simp[Ga];intro h h';omega
 | k+1=>by
   have ih:=YP ns i x k
   simp only[Ga];split
   ·rename_i h;rw[List.mem_append,ih,List.mem_singleton];constructor
    ·rintro (⟨h1,h2⟩|rfl)
     ·exact⟨by omega,h2⟩
     ·exact⟨by omega,h⟩
    ·rintro⟨h1,h2⟩
     by_cases hk:x=k
     ·exact .inr hk
     ·exact .inl ⟨by omega,h2⟩
   ·rename_i h;rw[ih];constructor
    ·rintro⟨h1,h2⟩;exact⟨by omega,h2⟩
    ·rintro⟨h1,h2⟩
     by_cases hk:x=k
     ·subst hk;exact absurd h2 h
     ·exact⟨by omega,h2⟩
def aCH (ns:List Node) (i:Int):AV:=.dZ [.agg (cU ⟨(oQ ns i ns.length).1⟩),.sl (oQ ns i ns.length).2.length (aJ (oQ ns i ns.length).2),.v (.int .i64 0)]
theorem A3 (ns:List Node) (i:Int):Flat (aCH ns i):=.dZ _ (oE (nC _) (Ky _) (.v _))
theorem k34 (ns:List Node) (hu:iB ns) (hn:(ns.length:Int)<1000000) (i:Int) (h:0≤i∧i<ns.length) (st:St) (d:Option Nat):aN (aD Tryz.prog) 34 [.agg (cU ⟨ns⟩),.v (.int .i64 i)] st d=some { dst:=d,val:=aCH ns i }:=bL (bI (nC _) (.v _)) (c34 ns hu hn i h.1 h.2) (A3 ns i)
theorem TL {ns:List Node} (hu:iB ns) {i:Int}:∀k:Nat,k≤ns.length→∀a:Int,0≤a→a<k→Aw ns i a=true →
 0≤it (oQ ns i k).2 a∧it (oQ ns i k).2 a<(oQ ns i k).1.length∧nd (oQ ns i k).1 (it (oQ ns i k).2 a)={ nd ns a with up:=if a=i then -1 else it (oQ ns i k).2 (nd ns a).up }
 | 0,_,a,a0,a1,_=>by omega
 | k+1,hk,a,a0,a1,ha=>by
   have hl:=Ef ns i k
   have Wk:a≠i→0≤(nd ns a).up∧(nd ns a).up<a:=fun h=>by
    by_cases ha0:a=0
    ·subst ha0;rw[LU (by omega)] at ha;simp at ha;omega
    ·exact hu a (by omega) (by omega)
   by_cases hak:a<k
   ·obtain⟨h1,h2,h3⟩:=TL hu k (by omega) a a0 hak ha
    simp only[oQ];split
    ·simp only
     rw[mG a0 (by omega),Iu h1 h2,h3]
     refine⟨h1,by simp;omega, ?_⟩
     by_cases DX:a=i
     ·rw[if_pos DX,if_pos DX]
     ·obtain⟨u0,u1⟩:=Wk DX
      rw[if_neg DX,if_neg DX,mG u0 (by omega)]
    ·simp only
     rw[mG a0 (by omega),h3]
     refine⟨h1,h2, ?_⟩
     by_cases DX:a=i
     ·rw[if_pos DX,if_pos DX]
     ·obtain⟨u0,u1⟩:=Wk DX
      rw[if_neg DX,if_neg DX,mG u0 (by omega)]
   ·have hak:a=k:=by omega
    subst hak;simp only[oQ,ha,if_true];rw[Co (by omega),DW rfl]
    refine⟨by omega,by simp<;>omega, ?_⟩
    by_cases DX:(k:Int)=i
    ·rw[if_pos DX,if_pos DX]
    ·obtain⟨u0,u1⟩:=Wk DX
     rw[if_neg DX,if_neg DX,mG u0 (by omega)]
theorem Lb (ns:List Node) (i:Int):∀(d k:Nat) (a:Int),0≤a→a<k→it (oQ ns i (k+d)).2 a=it (oQ ns i k).2 a
 | 0,k,a,_,_=>rfl
 | d+1,k,a,a0,a1=>by
   have ih:=Lb ns i d k a a0 a1
   have hl:=Ef ns i (k+d)
   rw[← ih,← Nat.add_assoc];simp only[oQ];split
   ·simp only;rw[mG a0 (by omega)]
   ·simp only;rw[mG a0 (by omega)]
theorem aCI {ns:List Node} {i:Int} {n:Nat} {k:Nat} (hk:k<n) (ha:Aw ns i k=true):it (oQ ns i n).2 k=(oQ ns i k).1.length:=by
 obtain⟨d,rfl⟩:∃d,n=k+1+d:=⟨n-(k+1),by omega⟩
 rw[Lb ns i d (k+1) k (by omega) (by omega)]
 have hl:=Ef ns i k
 simp only[oQ,ha,if_true];rw[Co (by omega)]
theorem P3 {ns:List Node} (hu:iB ns) {i:Int} {n:Nat} (hn:n≤ns.length) {a b:Int} (a0:0≤a) (hab:a<b) (hb:b<n) (ha:Aw ns i a=true) (nX:Aw ns i b=true):it (oQ ns i n).2 a<it (oQ ns i n).2 b:=by
 obtain⟨k,rfl⟩:∃k:Nat,b=k:=⟨b.toNat,by omega⟩
 rw[aCI (by omega) nX]
 obtain⟨d,rfl⟩:∃d,n=k+d:=⟨n-k,by omega⟩
 rw[Lb ns i d k a a0 hab];exact (TL hu k (by omega) a a0 hab ha).2.1
theorem Nd (ns:List Node) (i:Int):∀(k:Nat) (m:Int),0≤m→m<(oQ ns i k).1.length→∃a:Int,0≤a∧a<k∧Aw ns i a=true∧it (oQ ns i k).2 a=m
 | 0,m,m0,m1=>by simp[oQ] at m1;omega
 | k+1,m,m0,m1=>by
   have hl:=Ef ns i k
   simp only[oQ] at m1 ⊢;split at m1
   ·rename_i h;rw[if_pos h];simp only at m1 ⊢
    by_cases hm:m<(oQ ns i k).1.length
    ·obtain⟨a,a0,a1,ha,he⟩:=Nd ns i k m m0 hm
     exact⟨a,a0,by omega,ha,by rw[mG a0 (by omega)];exact he⟩
    ·simp at m1
     exact⟨k,by omega,by omega,h,by rw[Co (by omega)];omega⟩
   ·rename_i h;rw[if_neg h];simp only at m1 ⊢
    obtain⟨a,a0,a1,ha,he⟩:=Nd ns i k m m0 m1
    exact⟨a,a0,by omega,ha,by rw[mG a0 (by omega)];exact he⟩
end Go.Ab.Tryz
section
namespace Go.Ab.Tryz
open Classical Go.Proofs Go.Ab
variable {ns:List Node} {i:Int}
theorem LV (hu:iB ns) {a:Int} (ha:Aw ns i a=true):0≤it (oQ ns i ns.length).2 a∧it (oQ ns i ns.length).2 a<(oQ ns i ns.length).1.length∧nd (oQ ns i ns.length).1 (it (oQ ns i ns.length).2 a)={ nd ns a with up:=if a=i then -1 else it (oQ ns i ns.length).2 (nd ns a).up }:=by
 have h:=(Wi hu ha).2
 exact TL hu ns.length (Nat.le_refl _) a h.1 h.2 ha
theorem YQ (hu:iB ns) {a b:Int} (hab:a<b) (ha:Aw ns i a=true) (hb:Aw ns i b=true):it (oQ ns i ns.length).2 a<it (oQ ns i ns.length).2 b :=
 P3 hu (Nat.le_refl _) (Wi hu ha).2.1 hab (Wi hu hb).2.2 ha hb
theorem YR (hu:iB ns) (hi:Aw ns i i=true):it (oQ ns i ns.length).2 i=0:=by
 obtain⟨h1,h2,_⟩:=LV hu hi
 obtain⟨a,a0,a1,ha,he⟩:=Nd ns i ns.length 0 (Int.le_refl 0) (by omega)
 have:=P0 hu ha
 by_cases h:i=a
 ·rw[h] at he ⊢;rw[← h] at he ⊢;exact he
 ·have:=YQ hu (show i<a by omega) hi ha
  omega
theorem aKT (hu:iB ns) {a:Int} (ha:Aw ns i a=true) (h:a≠i):0<a∧(0≤(nd ns a).up∧(nd ns a).up<a)∧Aw ns i (nd ns a).up=true:=by
 obtain⟨⟨i0,_⟩,a0,a1⟩:=Wi hu ha
 have:=P0 hu ha
 have hp:0<a:=by omega
 refine⟨hp,hu a hp a1, ?_⟩
 rw[← aGL hu a1 (by omega) i0];exact ha
theorem aCJ (hu:iB ns) (hi:Aw ns i i=true):iB (oQ ns i ns.length).1:=by
 intro m m0 m1;obtain⟨a,a0,a1,ha,rfl⟩:=Nd ns i ns.length m (by omega) m1
 have DX:a≠i:=by rintro rfl;rw[YR hu hi] at m0;omega
 obtain⟨_,⟨u0,u1⟩,Wk⟩:=aKT hu ha DX
 rw[(LV hu ha).2.2];simp only[if_neg DX];exact⟨(LV hu Wk).1,YQ hu u1 Wk ha⟩
end Go.Ab.Tryz
end
namespace Go.Ab.Tryz
open Classical Go.Proofs Go.Ab
structure Vld (ns:List Node):Prop where
 A4:0<ns.length
 aWM:ns.length≤4096
 LW:(nd ns 0).up=-1
 up:iB ns
 par:∀i:Int,0<i→i<ns.length→(nd ns i).block.parent=(nd ns (nd ns i).up).block.root
 slot:∀i:Int,0<i→i<ns.length→(nd ns (nd ns i).up).block.slot<(nd ns i).block.slot
 roots:∀i j:Int,0≤i→i<j→j<ns.length→(nd ns i).block.root≠(nd ns j).block.root
 st:∀i:Int,0≤i→i<ns.length→TG (nd ns i).status=true
end Go.Ab.Tryz
namespace Go.Ab.Tryz
open Classical Go.Proofs Go.Ab
end Go.Ab.Tryz
namespace Go.Ab.Tryz
open Classical Go.Proofs Go.Ab
noncomputable def LX (st:St) (e:Option jI) (o:Nat):Option AV :=
 match e with
 | some (.cells cs)=>(bP (cs.map (tO st))).map fun ds=>.ip ds o
 | _=>none
theorem A5 (st:St) (f s g o:Nat):fU st (.Aj f [.ptr s g o])=(LX st (st.heap s g) o).map fun y=>.Aj f [y]:=by
 have hn:¬Flat (.Aj f [.ptr s g o]):=by intro h;cases h with|Aj _ _ h=>exact Nf s g o (h _ (by simp))
 unfold fU LX;rw[if_neg hn];simp only[List.map_cons,List.map_nil];unfold cM;rw[if_neg (Nf s g o)];simp only
 cases st.heap s g with
 | none=>rfl
 | some e=>cases e with
   | cells cs =>
     simp only
     cases bP (cs.map (tO st))<;>rfl
   | _=>rfl
theorem TM (st:St) {cs:List AV} (h:∀c∈cs,Flat c) (o:Nat):LX st (some (.cells cs)) o=some (.ip cs o):=by
 unfold LX;simp only[Su h,Option.map_some]
theorem TN (st:St) (r:cK) (o:Nat):LX st (some (.cells (aX r))) o=some (.ip (aX r) o):=TM st (dL r) o
theorem aP6 (n:Node) (r:cK):aD Tryz.prog 151 [.agg (fD n),.ip (aX r) 0]=some (.v (.bool (decide (n.block.root=r)))):=by
 rw[cL Tryz.func151 rfl aKU rfl];simp only[ZZ,seval];exact bX rfl (by simp only[EV,seval]) (.v _)
theorem aCK (r:cK):Flat (.ip (aX r) 0):=.ip _ _ (dL r)
theorem aKV (n:Node) (r:cK) (st:St) (d:Option Nat):aN (aD Tryz.prog) 151 ([.agg (fD n)]++[.ip (aX r) 0]) st d=some { dst:=d,val:=.v (.bool (decide (n.block.root=r)))}:=bL (bI (.agg _ (Lc n)) (aCK r)) (aP6 n r) (.v _)
theorem aP7 (ns:List Node) (hn:(ns.length:Int)<1000000) (r:cK):aD Tryz.prog 150 [.sl ns.length (cF ns),.Aj 151 [.ip (aX r) 0]]=some (.v (.int .i64 (aP ns r))):=by
 rw[cL Tryz.func150 rfl aKW rfl];simp only[ZZ,seval];refine lV (fun n st=>∃i:Int,(st.env 0=.sl ns.length (cF ns)∧st.env 1=.Aj 151 [.ip (aX r) 0]∧st.env 7=.v (.int .i64 ns.length)∧st.env 8=.v (.int .i64 i))∧0≤i∧i≤ns.length∧n=(ns.length-i).toNat∧∀j,0≤j→j<i→(nd ns j).block.root≠r)
  (fun e st=>(e=.ret∧st.env 4=.v (.int .i64 (aP ns r)))∨(e=.exit 0∧aP ns r=-1)) ns.length ?step ?start ?rest
 case step =>
  rintro n st ⟨i,hI,i0,i1,Is,hb⟩
  by_cases aZ:i<ns.length
  ·have hw:IntKind.i64.wrap (i+1)=i+1:=Gs _ (by omega) (by omega)
   by_cases hr:(nd ns i).block.root=r
   ·have hd:decide ((nd ns i).block.root=r)=true:=decide_eq_true hr
    apply oT (.ret)
    ·simp only[ZZ,seval,hI,aZ,i0,aKV,hd];rfl
    ·exact .inl ⟨rfl,by simp only[EV,seval,LY i0 aZ hr hb]⟩
   ·have hd:decide ((nd ns i).block.root=r)=false:=decide_eq_false hr
    apply oN ((ns.length-(i+1)).toNat)
    ·simp only[ZZ,seval,hI,aZ,i0,aKV,hd,hw];rfl
    ·exact⟨i+1,by simp only[EV,seval,hI],by omega,by omega,rfl,fun j j0 j1=>by
     rcases Int.lt_or_eq_of_le (show j≤i by omega) with h|rfl
     ·exact hb j j0 h
     ·exact hr⟩
  ·apply oT (.exit 0)
   ·simp only[ZZ,seval,hI,aZ,i0];rfl
   ·exact .inr ⟨rfl,Wl fun j j0 j1=>hb j j0 (by omega)⟩
 case start=>exact⟨0,(by simp only[EV,seval]),by omega,by omega,by omega,fun j _ _=>by omega⟩
 case rest =>
  rintro e st (⟨rfl,h⟩|⟨rfl,h⟩)
  ·simp only[ZZ,seval];exact bX rfl h (.v _)
  ·simp only[ZZ,seval];exact bX rfl (by simp only[EV,seval,h]) (.v _)
theorem aP8 (args:List AV) (st:St) (d:Option Nat):aN (aD Tryz.prog) 150 args st d=wR (aD Tryz.prog) 150 (bP (args.map (fU st))) (decide (∀x∈args,Flat x)) st d:=nD _ _ _ _ _
theorem aP9 (ns:List Node) (hn:(ns.length:Int)<1000000) (r:cK) (fl:Bool) (st:St) (d:Option Nat):wR (aD Tryz.prog) 150 (some [.sl ns.length (cF ns),.Aj 151 [.ip (aX r) 0]]) fl st d=some { dst:=d,val:=.v (.int .i64 (aP ns r))}:=LZ (aP7 ns hn r)
theorem P4 (st:St) (n:Nat) (l:List Node):fU st (.sl n (cF l))=some (.sl n (cF l)):=dY (.sl _ _ (kH l))
theorem c89 (ns:List Node) (r:cK) (hn:(ns.length:Int)<1000000):aD Tryz.prog 89 [.agg (cU ⟨ns⟩),.agg (aX r)]=some (.v (.int .i64 (aP ns r))):=by
 rw[cL Tryz.func89 rfl aQa rfl];simp only[ZZ,seval,aP8,A5,TN,P4,aP9,hn];exact bX rfl (by simp only[EV,seval]) (.v _)
theorem k89 (ns:List Node) (r:cK) (hn:(ns.length:Int)<1000000) (st:St) (d:Option Nat):aN (aD Tryz.prog) 89 [.agg (cU ⟨ns⟩),.agg (aX r)] st d=some { dst:=d,val:=.v (.int .i64 (aP ns r))}:=bL (bI (nC _) (qT _)) (c89 ns r hn) (.v _)
end Go.Ab.Tryz
namespace Go.Ab.Tryz
open Classical Go.Proofs Go.Ab
end Go.Ab.Tryz
namespace Go.Ab.Tryz
open Classical Go.Proofs Go.Ab
noncomputable def aGP (l:List Int):AV:=if l=[] then .v (.slice none 0 0) else .uniq 3 1 l.length (aJ l)
theorem Wm:aGP []=.v (.slice none 0 0):=if_pos rfl
theorem YS {l:List Int} (h:l≠[]):aGP l=.uniq 3 1 l.length (aJ l):=if_neg h
def Sv (ns:List Node) (i:Int):Nat→List Int
 | 0=>[]
 | k+1=>if (nd ns k).up=i then Sv ns i k++[(k:Int)] else Sv ns i k
theorem Vd (ns:List Node) (i:Int):∀k,(Sv ns i k).length≤k
 | 0=>Nat.le_refl _
 | k+1=>by
   have:=Vd ns i k
   simp only[Sv];split
   ·simp;omega
   ·omega
theorem MA {ns:List Node} {i:Int}:∀k:Nat,(∀j:Int,0≤j→j<k→(nd ns j).up≠i)→Sv ns i k=[]
 | 0,_=>rfl
 | k+1,h=>by
   simp only[Sv];rw[if_neg (h k (by omega) (by omega))]
   exact MA k fun j j0 j1=>h j j0 (by omega)
theorem aKX {ns:List Node} (hu:iB ns) (hr:(nd ns 0).up=-1) {j:Int} (j0:0≤j) (j1:j<ns.length):(nd ns j).up<ns.length:=by
 by_cases h:j=0
 ·subst h;omega
 ·have:=hu j (by omega) j1;omega
def wS (ns:List Node) (i:Int):List Int:=if i<0 then [] else Sv ns i ns.length
theorem MB {ns:List Node} (hu:iB ns) (hr:(nd ns 0).up=-1) {i:Int} (h:¬(0≤i∧i<ns.length)):wS ns i=[]:=by
 unfold wS;split
 ·rfl
 ·exact MA _ fun j j0 j1=>by have:=aKX hu hr j0 j1;omega
theorem aKY (ns:List Node) (hu:iB ns) (hr:(nd ns 0).up=-1) (hn:(ns.length:Int)<1000000) (i:Int):aD Tryz.prog 245 [.agg (cU ⟨ns⟩),.v (.int .i64 i)]=some (aGP (wS ns i)):=by
 rw[cL Tryz.func245 rfl aKZ rfl];by_cases hm:0≤i∧i<ns.length
 ·have hd:(decide (0≤i) && decide (i<ns.length))=true:=by simp[hm.1,hm.2]
  rw[show wS ns i=Sv ns i ns.length from if_neg (by omega)]
  simp only[ZZ,seval];refine lV (fun n st=>∃k:Nat,(st.env 1=.v (.int .i64 i)∧st.env 2=.ptr 2 0 0∧st.heap 2 0=some (.cells (cU ⟨ns⟩))∧st.env 6=.v (.int .i64 k)) ∧
   ((Sv ns i k=[]∧st.env 5=.v (.slice none 0 0))∨(Sv ns i k≠[]∧∃g,st.env 5=.own 30 g∧g<st.aO 30∧st.heap 30 g=some (.row 3 1 (Sv ns i k).length (aJ (Sv ns i k)))))∧k≤ns.length∧n=ns.length-k)
   (fun e st=>e=.exit 0∧((Sv ns i ns.length=[]∧st.env 5=.v (.slice none 0 0))∨(Sv ns i ns.length≠[]∧∃g,st.env 5=.own 30 g∧g<st.aO 30∧st.heap 30 g=some (.row 3 1 (Sv ns i ns.length).length (aJ (Sv ns i ns.length)))))) ns.length ?step ?start ?rest
  case step =>
   rintro n st ⟨k,hI,h5,hk,Is⟩
   have hl:=Vd ns i k
   have Gj:((Sv ns i k).length:Int)<1000000:=by omega
   by_cases aZ:(k:Int)<ns.length
   ·have hw:IntKind.i64.wrap ((k:Int)+1)=((k+1:Nat):Int):=by rw[Gs _ (by omega) (by omega)];omega
    have q0:(0:Int)≤k:=by omega
    by_cases hu:(nd ns k).up=i
    ·have hq:((nd ns k).up == i)=true:=by simp[hu]
     have hs:Sv ns i (k+1)=Sv ns i k++[(k:Int)]:=by simp only[Sv,hu,if_true]
     rcases h5 with ⟨hy,h5⟩|⟨hy,g,h5⟩
     ·rw[hy] at hs;apply oN (ns.length-(k+1))
      ·simp only[ZZ,seval,hI,h5,aZ,hw,q0,hq,SR,hd];rfl
      ·exact⟨k+1,by simp only[EV,seval,hI],.inr ⟨by rw[hs];simp,_,by simp only[EV,seval]<;>rfl,(by simp only[EV,seval]<;>omega),(by rw[hs];simp only[EV,seval]<;>rfl)⟩,by omega,rfl⟩
     ·apply oN (ns.length-(k+1))
      ·simp only[ZZ,seval,hI,h5,Gj,aZ,hw,q0,hq,SR,hd];rfl
      ·exact⟨k+1,by simp only[EV,seval,hI],.inr ⟨by rw[hs];simp,_,by simp only[EV,seval]<;>rfl,(by simp only[EV,seval]<;>omega),(by rw[hs];simp only[EV,seval]<;>rfl)⟩,by omega,rfl⟩
    ·have hq:((nd ns k).up == i)=false:=by simp[hu]
     have hs:Sv ns i (k+1)=Sv ns i k:=by simp only[Sv,hu,if_false]
     apply oN (ns.length-(k+1))
     ·simp only[ZZ,seval,hI,aZ,hw,q0,hq,SR,hd];rfl
     ·exact⟨k+1,by simp only[EV,seval,hI],by rw[hs];simpa only[EV,seval] using h5,by omega,rfl⟩
   ·obtain rfl:k=ns.length:=by omega
    apply oT (.exit 0)
    ·simp only[ZZ,seval,hI,aZ];rfl
    ·exact⟨rfl,by simpa only[EV,seval] using h5⟩
  case start=>exact⟨0,(by simp only[EV,seval]),.inl ⟨rfl,(by simp only[EV,seval])⟩,by omega,rfl⟩
  case rest =>
   rintro e st ⟨rfl,⟨hy,h5⟩|⟨hy,g,h5,hg,Ak⟩⟩
   ·rw[hy,Wm];simp only[ZZ,seval,h5];exact bX rfl (by simp only[EV,seval]) (.v _)
   ·rw[YS hy];simp only[ZZ,seval,h5,Ak];exact tD rfl (by simp only[EV,seval];rfl) (by simp only[EV,seval,Ak]) (gD _)
 ·have hd:(decide (0≤i) && decide (i<ns.length))=false:=by
   rw[← Bool.not_eq_true];simpa using hm
  rw[MB hu hr hm,Wm];by_cases h0:(0:Int)<ns.length
  ·simp only[ZZ,seval,Gu,SR,hd,h0];exact bX rfl (by simp only[EV,seval]) (.v _)
  ·simp only[ZZ,seval,Gu,SR,hd,h0];exact bX rfl (by simp only[EV,seval]) (.v _)
theorem aK0 (ns:List Node) (hu:iB ns) (hr:(nd ns 0).up=-1) (hn:(ns.length:Int)<1000000) (i:Int) (h:wS ns i≠[]) (st:St) (d:Nat):aN (aD Tryz.prog) 245 [.agg (cU ⟨ns⟩),.v (.int .i64 i)] st (some d)=some { dst:=some d,val:=.own d (st.aO d),new:=some (d,[.row 3 1 (wS ns i).length (aJ (wS ns i))])}:=by
 have hc:=aKY ns hu hr hn i
 rw[YS h] at hc;exact jE (bI (nC _) (.v _)) hc
theorem aFy (ns:List Node) (hu:iB ns) (hr:(nd ns 0).up=-1) (hn:(ns.length:Int)<1000000) (i:Int) (h:wS ns i=[]) (st:St) (d:Option Nat):aN (aD Tryz.prog) 245 [.agg (cU ⟨ns⟩),.v (.int .i64 i)] st d=some { dst:=d,val:=.v (.slice none 0 0)}:=by
 have hc:=aKY ns hu hr hn i
 rw[h,Wm] at hc;exact bL (bI (nC _) (.v _)) hc (.v _)
end Go.Ab.Tryz
namespace Go.Ab.Tryz
open Classical Go.Proofs Go.Ab
end Go.Ab.Tryz
namespace Go.Ab.Tryz
open Classical Go.Proofs Go.Ab
theorem Ng [Ext] {P:Program} {f:Nat} {fn:Func} {st:St} {e:Ex} {r:ResultVar} {x y:AV} (hk:Ext.qP f=true) (he:e=.ret∨e=.normal) (hr:fn.results.toList=[r]) (h1:bY P st r=some x) (hn:(jK x).Nodup) (hy:xR st x=some y):Al P f fn (e,st)=some y:=by
 have h:jA P f fn st=some y:=by
  unfold jA;rw[hk,if_pos rfl];unfold Ea;rw[hr];simp only[Ax,h1,cC,if_pos hn,hy]
 rcases he with rfl|rfl<;>exact h
theorem MC [Ext] {P:Program} {f:Nat} {fn:Func} {st:St} {e:Ex} {r1 r2:ResultVar} {x1 x2 y:AV} (hk:Ext.qP f=true) (he:e=.ret∨e=.normal) (hr:fn.results.toList=[r1,r2]) (h1:bY P st r1=some x1) (h2:bY P st r2=some x2)
 (hn:(jK (.dZ [x1,x2])).Nodup) (hy:xR st (.dZ [x1,x2])=some y):Al P f fn (e,st)=some y:=by
 have h:jA P f fn st=some y:=by
  unfold jA;rw[hk,if_pos rfl];unfold Ea;rw[hr];simp only[List.map_cons,List.map_nil,Ax,h1,h2,cC,bP,Option.map_some,if_pos hn,hy]
 rcases he with rfl|rfl<;>exact h
theorem DY {st:St} {s g e sz n:Nat} {cs:List AV} (h:st.heap s g=some (.row e sz n cs)) (hf:∀c∈cs,Flat c):pZ st (.agg [.own s g])=some (.agg [.uniq e sz n cs]):=by
 simp only[pZ,List.map_cons,List.map_nil,jW,if_neg (pA s g),h,if_pos hf,bP,Option.map_some]
theorem A6 (st:St):pZ st (.agg [.v (.slice none 0 0)])=some (.agg [.v (.slice none 0 0)]):=by
 simp only[pZ,List.map_cons,List.map_nil,jW,if_pos (Flat.v _),bP,Option.map_some]
theorem YT (st:St) (x:Value):pZ st (.v x)=some (.v x):=by simp only[pZ,jW,if_pos (Flat.v x)]
theorem DZ {st:St} {a b x y:AV} (h1:pZ st a=some x) (h2:pZ st b=some y):xR st (.dZ [a,b])=some (.dZ [x,y]):=by
 simp only[xR,List.map_cons,List.map_nil,h1,h2,bP,Option.map_some]
theorem A7 {st:St} {cs:List AV} {x:AV} (h1:pZ st (.agg cs)=some x):xR st (.agg cs)=some x:=h1
theorem Jy (e sz n:Nat) (cs:List AV):¬Flat (.uniq e sz n cs):=by intro h;cases h
theorem A8 {e sz n:Nat} {cs:List AV} {st:St} {d:Nat}:iM (.agg [.uniq e sz n cs]) st (some d)=some { dst:=some d,val:=.agg [.own d (st.aO d)],new:=some (d,[.row e sz n cs])}:=by
 have hn:¬Flat (.agg [.uniq e sz n cs]):=by intro h;cases h with|agg _ h=>exact Jy e sz n cs (h _ (by simp))
 unfold iM;rw[if_neg hn];rfl
theorem A9 {e sz n:Nat} {cs:List AV} {x:Value} {st:St} {d:Nat}:iM (.dZ [.agg [.uniq e sz n cs],.v x]) st (some d)=some { dst:=some d,val:=.dZ [.agg [.own d (st.aO d)],.v x],new:=some (d,[.row e sz n cs])}:=by
 have hn:¬Flat (.dZ [.agg [.uniq e sz n cs],.v x]):=by
  intro h;cases h with
  | dZ _ h =>
    have:=h (.agg [.uniq e sz n cs]) (by simp)
    cases this with
    | agg _ h=>exact Jy e sz n cs (h _ (by simp))
 unfold iM;rw[if_neg hn];rfl
theorem aCL {call:Nat→List AV→Option AV} {g:Nat} {args:List AV} {d e sz n:Nat} {cs:List AV} {st:St} (hf:∀x∈args,Flat x) (h:call g args=some (.agg [.uniq e sz n cs])):aN call g args st (some d)=some { dst:=some d,val:=.agg [.own d (st.aO d)],new:=some (d,[.row e sz n cs])}:=by
 unfold aN;rw[if_pos hf,h];exact A8
theorem aK1 {call:Nat→List AV→Option AV} {g:Nat} {xs:List AV} {d e sz n:Nat} {cs:List AV} {x:Value} {fl:Bool} {st:St} (h:call g xs=some (.dZ [.agg [.uniq e sz n cs],.v x])) (hm:∀c∈cs,fJ c):wR call g (some xs) fl st (some d)=some { dst:=some d,val:=.dZ [.agg [.own d (st.aO d)],.v x],new:=some (d,[.row e sz n cs])}:=by
 have YU:Sq (.dZ [.agg [.uniq e sz n cs],.v x]):=by
  intro y hy;rcases List.mem_cons.1 hy with rfl|hy
  ·intro c hc;simp at hc
   subst hc;exact hm
  ·simp at hy
   subst hy;exact .v _
 unfold wR;simp only[cW,h,YU,or_true,if_true];exact A9
theorem aK2 {call:Nat→List AV→Option AV} {g:Nat} {xs:List AV} {x y:Value} {fl:Bool} {st:St} {d:Option Nat} (h:call g xs=some (.dZ [.agg [.v y],.v x])):wR call g (some xs) fl st d=some { dst:=d,val:=.dZ [.agg [.v y],.v x]}:=by
 have hf:∀z∈[AV.agg [.v y],.v x],Flat z:=bI (.agg _ (cP (.v _))) (.v _)
 refine B0 h ?_ (.dZ _ hf)
 intro z hz;rcases List.mem_cons.1 hz with rfl|hz
 ·intro c hc;simp at hc;subst hc;exact .v _
 ·simp at hz;subst hz;exact .v _
theorem YV {z:Nat} {α:Type} (f:α→List AV) (hf:∀x,(f x).length=z):∀(l:List α) (i o:Nat) (hi:i<l.length),o<z→(l.flatMap f)[i * z+o]? = (f l[i])[o]?
 | [],i,o,hi,_=>by simp at hi
 | a :: l,0,o,_,ho=>by
   simp only[List.flatMap_cons,Nat.zero_mul,Nat.zero_add,List.getElem_cons_zero];rw[List.getElem?_append_left (by rw[hf];exact ho)]
 | a :: l,i+1,o,hi,ho=>by
   have ih:=YV f hf l i o (by simpa using hi) ho
   simp only[List.flatMap_cons,List.getElem_cons_succ];rw[List.getElem?_append_right (by rw[hf,Nat.succ_mul];omega),hf,show (i+1) * z+o-z=i * z+o by rw[Nat.succ_mul];omega]
   exact ih
theorem YW {z:Nat} {α:Type} (f:α→List AV) (hf:∀x,(f x).length=z) (o e:Nat) (xs:List AV) (hoe:o≤e) (he:e≤z):∀(l:List α) (i:Nat) (hi:i<l.length) (y:α),dM (f l[i]) o xs e=f y→dM (l.flatMap f) (i * z+o) xs (i * z+e)=(l.set i y).flatMap f
 | [],i,hi,_,_=>by simp at hi
 | a :: l,0,_,y,h=>by
   simp only[List.flatMap_cons,Nat.zero_mul,Nat.zero_add,List.set_cons_zero,List.getElem_cons_zero] at h ⊢;rw[← h];unfold dM;rw[List.take_append_of_le_length (by rw[hf];omega),List.drop_append_of_le_length (by rw[hf];omega)]
   simp
 | a :: l,i+1,hi,y,h=>by
   have ih:=YW f hf o e xs hoe he l i (by simpa using hi) y (by simpa using h)
   simp only[List.flatMap_cons,List.set_cons_succ];rw[← ih];unfold dM;have h1:(i+1) * z+o=z+(i * z+o):=by rw[Nat.succ_mul];omega
   have h2:(i+1) * z+e=z+(i * z+e):=by rw[Nat.succ_mul];omega
   rw[h1,h2,List.take_append,List.drop_append,List.take_of_length_le (by rw[hf];omega),List.drop_of_length_le (by rw[hf];omega),hf,Nat.add_sub_cancel_left,Nat.add_sub_cancel_left]
   simp
theorem B4 {l:List Bool} {xs:List AV} (h:gW l xs xs):∀c∈xs,fJ c:=by
 obtain⟨us,vs,rfl,_,_⟩:=Cm _ _ _ h
 intro c hc;obtain⟨x,_,rfl⟩:=List.mem_map.1 hc
 exact .v _
theorem Wn (l:List Node):∀c∈cF l,fJ c:=fun c hc=>by
 obtain⟨n,_,h⟩:=List.mem_flatMap.1 hc
 exact B4 (Wo n n) c h
theorem B5 {l:List Node} {i:Int} (h0:0≤i) (h1:i<l.length) (o:Nat) (ho:o<240):(cF l)[i.toNat * 240+o]? = (fD (nd l i))[o]?:=by
 obtain⟨h,e⟩:=Ld h0 h1
 rw[e];exact YV fD vK l i.toNat o h ho
theorem B6 {l:List Node} {i:Int} (h0:0≤i) (h1:i<l.length) {o e:Nat} {xs:List AV} (hoe:o≤e) (he:e≤240) {y:Node} (h:dM (fD (nd l i)) o xs e=fD y):dM (cF l) (i.toNat * 240+o) xs (i.toNat * 240+e)=cF (l.set i.toNat y):=by
 obtain⟨hi,e'⟩:=Ld h0 h1
 rw[e'] at h;exact YW fD vK o e xs hoe he l i.toNat hi y h
def Wp (n:Node) (s:Int):Node:={ n with status:=s }
def setAt (ns:List Node) (i s:Int):List Node:=ns.set i.toNat (Wp (nd ns i) s)
theorem TO {l:List Node} {i s:Int} (h0:0≤i) (h1:i<l.length):dM (cF l) (i.toNat * 240+239) [.v (.int .i64 s)] (i.toNat * 240+240)=cF (setAt l i s) :=
 B6 h0 h1 (by decide) (by decide) (Gv (nd l i) _)
theorem TP {l:List Node} {i:Int} (h0:0≤i) (h1:i<l.length):(cF l)[i.toNat * 240+239]? = some (.v (.int .i64 (nd l i).status)):=by
 rw[B5 h0 h1 239 (by decide)]
 exact Fm (nd l i)
theorem Cp (ns:List Node) (i s:Int):(setAt ns i s).length=ns.length:=by simp[setAt]
def EA (to never:Int):List Int→List Node→Option (List Node)
 | [],ns=>some ns
 | i :: l,ns=>if (nd ns i).status=never then none else EA to never l (setAt ns i to)
theorem GH {to never:Int}:∀(l:List Int) (ns r:List Node),EA to never l ns=some r→r.length=ns.length
 | [],ns,r,h=>by simp only[EA,Option.some.injEq] at h;rw[h]
 | i :: l,ns,r,h=>by
   simp only[EA] at h;split at h
   ·cases h
   ·rw[GH l _ r h,Cp]
theorem TS {l:List Node} (h:0<l.length):cF l≠[]:=by
 intro he;have:=congrArg List.length he
 rw[Lf] at this;simp only[List.length_nil] at this;omega
theorem aQd (l:List Node) (h0:0<l.length) (hn:(l.length:Int)<1000000):aD Tryz.prog 192 [.sl l.length (cF l)]=some (.uniq 76 240 l.length (cF l)):=by
 rw[cL Tryz.func192 rfl aK3 rfl];have gT:=TS h0
 have ha:=fun s g=>Iv (e:=76) (sz:=240) (by_:=352) (s:=s) (g:=g) (n:=l.length) (cs:=cF l) (by simp) (by omega) (by unfold maxLen;omega)
 simp only[ZZ,seval,gT,ha];exact tD rfl (by simp only[EV,seval];rfl) (by simp only[EV,seval]) (kH _)
theorem aQe (l:List Node) (h0:0<l.length) (hn:(l.length:Int)<1000000) (st:St) (d:Nat):aN (aD Tryz.prog) 192 [.sl l.length (cF l)] st (some d)=some { dst:=some d,val:=.own d (st.aO d),new:=some (d,[.row 76 240 l.length (cF l)])}:=jE (cP (.sl _ _ (kH l))) (aQd l h0 hn)
theorem aQf (ns:List Node) (h0:0<ns.length) (hn:(ns.length:Int)<1000000):aD Tryz.prog 165 [.agg (cU ⟨ns⟩)]=some (.agg [.uniq 76 240 ns.length (cF ns)]):=by
 rw[cL Tryz.func165 rfl aK4 rfl];have hK:=aQe ns h0 hn
 simp only[ZZ,seval,hK];refine Ng rfl (.inl rfl) rfl (x:=.agg [.own 5 0]) (by simp only[bY,ZZ,seval]) (by simp[jK,iW,gF]) (A7 (DY (by simp only[EV,seval]) (kH _)))
theorem aQg (ns:List Node) (h0:0<ns.length) (hn:(ns.length:Int)<1000000) (st:St) (d:Nat):aN (aD Tryz.prog) 165 [.agg (cU ⟨ns⟩)] st (some d)=some { dst:=some d,val:=.agg [.own d (st.aO d)],new:=some (d,[.row 76 240 ns.length (cF ns)])}:=aCL (cP (nC _)) (aQf ns h0 hn)
theorem aCM {l:List Int} {k:Nat} (h:k<l.length):l.drop k=it l k :: l.drop (k+1):=by
 rw[List.drop_eq_getElem_cons h];simp[it,h]
theorem aK5 (s g:Nat) (x:Value):(jK (.dZ [.agg [.own s g],.v x])).Nodup:=by simp[jK,iW,gF]
theorem aK6 (y x:Value):(jK (.dZ [.agg [.v y],.v x])).Nodup:=by simp[jK,iW,gF]
def BO (e:Int):AV:=.dZ [.agg [.v (.slice none 0 0)],.v (.int .i64 e)]
def chS (o:Option (List Node)):AV :=
 match o with
 | none=>.dZ [.agg [.v (.slice none 0 0)],.v (.bool false)]
 | some r=>.dZ [.agg [.uniq 76 240 r.length (cF r)],.v (.bool true)]
theorem aK7 (ns:List Node) (h0:0<ns.length) (hn:(ns.length:Int)<1000000) (l:List Int) (hl:(l.length:Int)<1000000) (hm:∀x∈l,0≤x∧x<ns.length) (to never:Int) :
 aD Tryz.prog 247 [.agg (cU ⟨ns⟩),.sl l.length (aJ l),.v (.int .i64 to),.v (.int .i64 never)]=some (chS (EA to never l ns)):=by
 rw[cL Tryz.func247 rfl aK8 rfl];simp only[ZZ,seval,hn];refine lV (fun n st=>∃(k:Nat) (cur:List Node),(st.env 1=.sl l.length (aJ l)∧st.env 2=.v (.int .i64 to)∧st.env 3=.v (.int .i64 never)∧st.env 8=.ptr 8 0 0∧st.heap 8 0=some (.cells [.v (.slice none 0 0)])∧st.env 10=.ptr 10 0 0∧st.heap 10 0=some (.cells [.own 14 0])∧st.heap 14 0=some (.row 76 240 cur.length (cF cur))∧st.env 11=.v (.int .i64 k))∧cur.length=ns.length∧EA to never l ns=EA to never (l.drop k) cur∧k≤l.length∧n=l.length-k)
  (fun e st=>(e=.ret∧EA to never l ns=none∧st.env 8=.ptr 8 0 0∧st.heap 8 0=some (.cells [.v (.slice none 0 0)])∧st.env 9=.v (.bool false))∨(e=.exit 0∧∃r,EA to never l ns=some r∧st.env 8=.ptr 8 0 0∧st.heap 8 0=some (.cells [.v (.slice none 0 0)])∧st.env 10=.ptr 10 0 0∧st.heap 10 0=some (.cells [.own 14 0])∧st.heap 14 0=some (.row 76 240 r.length (cF r)))) l.length ?step ?start ?rest
 case step =>
  rintro n st ⟨k,cur,hI,Bv,hc,hk,Is⟩
  by_cases aZ:(k:Int)<l.length
  ·have q0:(0:Int)≤k:=by omega
   have hw:IntKind.i64.wrap ((k:Int)+1)=((k+1:Nat):Int):=by rw[Gs _ (by omega) (by omega)];omega
   obtain⟨x0,x1⟩:=hm _ (Ee q0 aZ)
   have x2:it l k<cur.length:=by omega
   rw[aCM (by omega)] at hc
   simp only[EA] at hc;have hg:=TP x0 x2
   by_cases hs:(nd cur (it l k)).status=never
   ·rw[if_pos hs] at hc;have hb:((nd cur (it l k)).status == never)=true:=by simp[hs]
    apply oT (.ret)
    ·simp only[ZZ,seval,hI,aZ,q0,x0,x2,hg,hb];rfl
    ·exact .inl ⟨rfl,hc,by simp only[EV,seval,hI],by simp only[EV,seval,hI],by simp only[EV,seval,hI]⟩
   ·rw[if_neg hs] at hc;have hb:((nd cur (it l k)).status == never)=false:=by simp[hs]
    have hu:=TO (s:=to) x0 x2
    have hle:(it l k).toNat * 240+239+1≤cur.length * 240:=by
     have:((it l k).toNat+1) * 240≤cur.length * 240:=Nat.mul_le_mul_right _ (by omega)
     omega
    have hle2:(it l k).toNat * 240+240≤cur.length * 240:=by omega
    apply oN (l.length-(k+1))
    ·simp only[ZZ,seval,hI,aZ,q0,x0,x2,hg,hb,hu,hle,hle2,hw];rfl
    ·exact⟨k+1,setAt cur (it l k) to,by simp only[EV,seval,hI,Cp],by rw[Cp];exact Bv,hc,by omega,rfl⟩
  ·obtain rfl:k=l.length:=by omega
   rw[List.drop_length] at hc;apply oT (.exit 0)
   ·simp only[ZZ,seval,hI,aZ];rfl
   ·exact .inr ⟨rfl,cur,hc,by simp only[EV,seval,hI]⟩
 case start=>exact⟨0,ns,by simp only[EV,seval]<;>rfl,rfl,rfl,by omega,by omega⟩
 case rest =>
  rintro e st (⟨rfl,hc,hI⟩|⟨rfl,r,hc,hI⟩)
  ·rw[hc];simp only[ZZ,seval];exact MC rfl (.inl rfl) rfl (x1:=.agg [.v (.slice none 0 0)]) (x2:=.v (.bool false)) (by simp only[bY,ZZ,seval,hI]) (by simp only[bY,ZZ,seval,hI]) (aK6 _ _) (DZ (A6 _) (YT _ _))
  ·rw[hc];simp only[ZZ,seval,hI];exact MC rfl (.inl rfl) rfl (x1:=.agg [.own 14 0]) (x2:=.v (.bool true)) (by simp only[bY,ZZ,seval,hI]) (by simp only[bY,ZZ,seval,hI]) (aK5 _ _ _) (DZ (DY (by simp only[EV,seval,hI]) (kH _)) (YT _ _))
theorem GJ {ns:List Node} (hu:iB ns) {c:Int} (c0:0≤c) (c1:c<ns.length):0<(path ns c).length:=List.length_pos_iff.2 fun h=>by
 have:=yM hu c0 c1
 rw[h] at this;cases this
theorem B7 {ns:List Node} (hu:iB ns) {c:Int} (c0:0≤c) (c1:c<ns.length):it (path ns c) ((path ns c).length-1:Int)=c:=by
 by_cases h:c=0
 ·subst h;rw[rR (by omega)]
  rfl
 ·rw[rS hu (by omega) c1]
  exact Co (by simp)
theorem c64 (ns:List Node) (hu:iB ns) (hn:(ns.length:Int)<1000000) (i:Int):aD Tryz.prog 64 [.agg (cU ⟨ns⟩),.v (.int .i64 i)]=some (if Ga ns i ns.length=[] then .v (.slice none 0 0) else .uniq 3 1 (Ga ns i ns.length).length (aJ (Ga ns i ns.length))):=by
 rw[cL Tryz.func64 rfl aQh rfl];have h41:=Nc ns hu hn
 simp only[ZZ,seval];refine lV (fun n st=>∃k:Nat,st.env 1=.v (.int .i64 i)∧st.env 2=.ptr 2 0 0∧st.heap 2 0=some (.cells (cU ⟨ns⟩))∧st.env 6=.v (.int .i64 k) ∧
  ((Ga ns i k=[]∧st.env 5=.v (.slice none 0 0))∨(Ga ns i k≠[]∧∃g,st.env 5=.own 21 g∧g<st.aO 21∧st.heap 21 g=some (.row 3 1 (Ga ns i k).length (aJ (Ga ns i k)))))∧k≤ns.length∧n=ns.length-k)
  (fun e st=>e=.exit 0∧((Ga ns i ns.length=[]∧st.env 5=.v (.slice none 0 0))∨(Ga ns i ns.length≠[]∧∃g,st.env 5=.own 21 g∧g<st.aO 21∧st.heap 21 g=some (.row 3 1 (Ga ns i ns.length).length (aJ (Ga ns i ns.length)))))) ns.length ?step ?start ?rest
 case step =>
  rintro n st ⟨k,h1,h2,uX,h6,h5,hk,Is⟩
  have hdl:=Vc ns i k
  have hdl':((Ga ns i k).length:Int)<1000000:=by omega
  by_cases aZ:(k:Int)<ns.length
  ·have hw:IntKind.i64.wrap ((k:Int)+1)=((k+1:Nat):Int):=by rw[Gs _ (by omega) (by omega)];omega
   cases ha:Aw ns i k
   ·have hs:Ga ns i (k+1)=Ga ns i k:=by simp only[Ga,ha,Bool.false_eq_true,if_false]
    rcases h5 with ⟨hy,h5⟩|⟨hy,g,h5,hg,Ak⟩
    ·apply oN (ns.length-(k+1))
     ·simp only[ZZ,seval,h1,h2,uX,h6,h5,aZ,hw,h41,ha];rfl
     ·exact⟨k+1,by simp only[EV,seval,h1],by simp only[EV,seval,h2],by simp only[EV,seval,uX],(by simp only[EV,seval]),.inl ⟨by rw[hs];exact hy,by simp only[EV,seval,h5]⟩,by omega,rfl⟩
    ·apply oN (ns.length-(k+1))
     ·simp only[ZZ,seval,h1,h2,uX,h6,h5,Ak,aZ,hw,h41,ha];rfl
     ·exact⟨k+1,by simp only[EV,seval,h1],by simp only[EV,seval,h2],by simp only[EV,seval,uX],(by simp only[EV,seval]),.inr ⟨by rw[hs];exact hy,g,by simp only[EV,seval,h5],(by simp only[EV,seval]<;>omega),(by rw[hs];simp only[EV,seval,Ak])⟩,by omega,rfl⟩
   ·have hs:Ga ns i (k+1)=Ga ns i k++[(k:Int)]:=by simp only[Ga,ha,if_true]
    rcases h5 with ⟨hy,h5⟩|⟨hy,g,h5,hg,Ak⟩
    ·rw[hy] at hs;apply oN (ns.length-(k+1))
     ·simp only[ZZ,seval,h1,h2,uX,h6,h5,aZ,hw,h41,ha];rfl
     ·exact⟨k+1,by simp only[EV,seval,h1],by simp only[EV,seval,h2],by simp only[EV,seval,uX],(by simp only[EV,seval]),.inr ⟨by rw[hs];simp,_,by simp only[EV,seval]<;>rfl,(by simp only[EV,seval]<;>omega),(by rw[hs];simp only[EV,seval]<;>rfl)⟩,by omega,rfl⟩
    ·apply oN (ns.length-(k+1))
     ·simp only[ZZ,seval,h1,h2,uX,h6,h5,Ak,hdl',aZ,hw,h41,ha];rfl
     ·exact⟨k+1,by simp only[EV,seval,h1],by simp only[EV,seval,h2],by simp only[EV,seval,uX],(by simp only[EV,seval]),.inr ⟨by rw[hs];simp,_,by simp only[EV,seval]<;>rfl,(by simp only[EV,seval]<;>omega),(by rw[hs];simp only[EV,seval]<;>rfl)⟩,by omega,rfl⟩
  ·obtain rfl:k=ns.length:=by omega
   apply oT (.exit 0)
   ·simp only[ZZ,seval,h2,uX,h6,aZ];rfl
   ·exact⟨rfl,by simpa only[EV,seval] using h5⟩
 case start=>exact⟨0,(by simp only[EV,seval]),(by simp only[EV,seval]),(by simp only[EV,seval]),(by simp only[EV,seval]),.inl ⟨rfl,(by simp only[EV,seval])⟩,by omega,rfl⟩
 case rest =>
  rintro e st ⟨rfl,⟨hy,h5⟩|⟨hy,g,h5,hg,Ak⟩⟩
  ·rw[if_pos hy];simp only[ZZ,seval,h5];exact bX rfl (by simp only[EV,seval]) (.v _)
  ·rw[if_neg hy];simp only[ZZ,seval,h5,Ak];exact tD rfl (by simp only[EV,seval];rfl) (by simp only[EV,seval,Ak]) (gD _)
theorem k64 (ns:List Node) (hu:iB ns) (hn:(ns.length:Int)<1000000) (i:Int) (h:Ga ns i ns.length≠[]) (st:St) (d:Nat):aN (aD Tryz.prog) 64 [.agg (cU ⟨ns⟩),.v (.int .i64 i)] st (some d)=some { dst:=some d,val:=.own d (st.aO d),new:=some (d,[.row 3 1 (Ga ns i ns.length).length (aJ (Ga ns i ns.length))])}:=by
 have hc:=c64 ns hu hn i
 rw[if_neg h] at hc;exact jE (bI (nC _) (.v _)) hc
end Go.Ab.Tryz
namespace Go.Ab.Tryz
open Classical Go.Proofs Go.Ab
end Go.Ab.Tryz
namespace Go.Ab.Tryz
open Classical Go.Proofs Go.Ab
theorem aCN (args:List AV) (st:St) (d:Option Nat):aN (aD Tryz.prog) 247 args st d=wR (aD Tryz.prog) 247 (bP (args.map (fU st))) (decide (∀x∈args,Flat x)) st d:=nD _ _ _ _ _
theorem B8:Flat (.agg [.v (.slice none 0 0)]):=.agg _ (cP (.v _))
theorem vL (e:Int):Flat (BO e):=.dZ _ (bI B8 (.v _))
def stA (o:Option (List Node)):AV :=
 match o with
 | none=>BO 21
 | some r=>.dZ [.agg (cU ⟨r⟩),.v (.int .i64 0)]
theorem MD (o:Option (List Node)):Flat (stA o):=by
 cases o with
 | none=>exact vL _
 | some r=>exact .dZ _ (bI (nC _) (.v _))
noncomputable def raO (ns:List Node) (i:Int):Option (List Node):=EA 1 2 (path ns i) ns
noncomputable def coO (ns:List Node) (i:Int):Option (List Node):=EA 2 1 (Ga ns i ns.length) ns
noncomputable def N1 (ns:List Node) (i:Int):AV:=if 0≤i∧i<ns.length then stA (raO ns i) else BO 10
noncomputable def N2 (ns:List Node) (i:Int):AV:=if 0≤i∧i<ns.length then stA (coO ns i) else BO 10
theorem Ve {ns:List Node} (hu:iB ns) {i:Int}:∀x∈path ns i,0≤x∧x<ns.length:=fun x hx=>vJ hu hx
theorem YX (ns:List Node) (i:Int):∀x∈Ga ns i ns.length,0≤x∧x<ns.length:=fun x hx=>((YP ns i x _).1 hx).1
theorem aQk (ns:List Node) (hu:iB ns) (hn:(ns.length:Int)<1000000) (i:Int):aD Tryz.prog 236 [.agg (cU ⟨ns⟩),.v (.int .i64 i)]=some (N1 ns i):=by
 rw[cL Tryz.func236 rfl aK9 rfl];unfold N1;by_cases hm:0≤i∧i<ns.length
 ·rw[if_pos hm];have hd:(decide (0≤i) && decide (i<ns.length))=true:=by simp[hm.1,hm.2]
  have h45:=k76 ns hu hn i hm.1 hm.2
  have hpl:=Av hu i
  have hc:=aK7 ns (by omega) hn (path ns i) (by omega) (Ve hu) 1 2
  unfold raO;cases ho:EA 1 2 (path ns i) ns with
  | none =>
    rw[ho] at hc;have hK:=fun (fl:Bool) (st:St) (d:Option Nat)=>aK2 (fl:=fl) (st:=st) (d:=d) hc
    simp only[ZZ,seval,SR,hd,h45,aCN,hK,eC];exact dP rfl (by simp only[bY,ZZ,seval];rfl) (by simp only[bY,EV,seval]<;>rfl) (by simp only[EV,seval]<;>rfl) (by simp only[EV,seval]<;>rfl)
  | some r =>
    rw[ho] at hc;have hK:=fun (fl:Bool) (st:St) (d:Nat)=>aK1 (fl:=fl) (st:=st) (d:=d) hc (Wn r)
    simp only[ZZ,seval,SR,hd,h45,aCN,hK,eC];exact dP rfl (by simp only[bY,ZZ,seval];rfl) (by simp only[bY,EV,seval]<;>rfl) (by simp only[EV,seval]<;>rfl) (by simp only[EV,seval]<;>rfl)
 ·rw[if_neg hm];have hd:(decide (0≤i) && decide (i<ns.length))=false:=by rw[← Bool.not_eq_true];simpa using hm
  simp only[ZZ,seval,SR,hd];exact dP rfl (by simp only[bY,ZZ,seval];rfl) (by simp only[bY,EV,seval]<;>rfl) (by simp only[EV,seval]<;>rfl) (by simp only[EV,seval]<;>rfl)
theorem aQl (ns:List Node) (hu:iB ns) (hn:(ns.length:Int)<1000000) (i:Int):aD Tryz.prog 238 [.agg (cU ⟨ns⟩),.v (.int .i64 i)]=some (N2 ns i):=by
 rw[cL Tryz.func238 rfl aLa rfl];unfold N2;by_cases hm:0≤i∧i<ns.length
 ·rw[if_pos hm];have hd:(decide (0≤i) && decide (i<ns.length))=true:=by simp[hm.1,hm.2]
  have h36:=k64 ns hu hn i (TK hu hm.1 hm.2 _ hm.2)
  have hdl:=Vc ns i ns.length
  have hc:=aK7 ns (by omega) hn (Ga ns i ns.length) (by omega) (YX ns i) 2 1
  unfold coO;cases ho:EA 2 1 (Ga ns i ns.length) ns with
  | none =>
    rw[ho] at hc;have hK:=fun (fl:Bool) (st:St) (d:Option Nat)=>aK2 (fl:=fl) (st:=st) (d:=d) hc
    simp only[ZZ,seval,SR,hd,h36,aCN,hK,eC];exact dP rfl (by simp only[bY,ZZ,seval];rfl) (by simp only[bY,EV,seval]<;>rfl) (by simp only[EV,seval]<;>rfl) (by simp only[EV,seval]<;>rfl)
  | some r =>
    rw[ho] at hc;have hK:=fun (fl:Bool) (st:St) (d:Nat)=>aK1 (fl:=fl) (st:=st) (d:=d) hc (Wn r)
    simp only[ZZ,seval,SR,hd,h36,aCN,hK,eC];exact dP rfl (by simp only[bY,ZZ,seval];rfl) (by simp only[bY,EV,seval]<;>rfl) (by simp only[EV,seval]<;>rfl) (by simp only[EV,seval]<;>rfl)
 ·rw[if_neg hm];have hd:(decide (0≤i) && decide (i<ns.length))=false:=by rw[← Bool.not_eq_true];simpa using hm
  simp only[ZZ,seval,SR,hd];exact dP rfl (by simp only[bY,ZZ,seval];rfl) (by simp only[bY,EV,seval]<;>rfl) (by simp only[EV,seval]<;>rfl) (by simp only[EV,seval]<;>rfl)
theorem ME (ns:List Node) (i:Int):Flat (N1 ns i):=by unfold N1;split;exact MD _;exact vL _
theorem Wq (ns:List Node) (i:Int):Flat (N2 ns i):=by unfold N2;split;exact MD _;exact vL _
theorem aLb (ns:List Node) (hu:iB ns) (hn:(ns.length:Int)<1000000) (i:Int) (st:St) (d:Option Nat):aN (aD Tryz.prog) 236 [.agg (cU ⟨ns⟩),.v (.int .i64 i)] st d=some { dst:=d,val:=N1 ns i }:=bL (bI (nC _) (.v _)) (aQk ns hu hn i) (ME ns i)
theorem aLc (ns:List Node) (hu:iB ns) (hn:(ns.length:Int)<1000000) (i:Int) (st:St) (d:Option Nat):aN (aD Tryz.prog) 238 [.agg (cU ⟨ns⟩),.v (.int .i64 i)] st d=some { dst:=d,val:=N2 ns i }:=bL (bI (nC _) (.v _)) (aQl ns hu hn i) (Wq ns i)
end Go.Ab.Tryz
namespace Go.Ab.Tryz
open Classical Go.Proofs Go.Ab
end Go.Ab.Tryz
namespace Go.Ab.Tryz
open Classical Go.Proofs Go.Ab
theorem B9 (ns:List Node) (hn:(ns.length:Int)<1000000) (i:Int):(∃e,N1 ns i=.dZ [.agg [.v (.slice none 0 0)],.v (.int .i64 e)])∨∃r:List Node,N1 ns i=.dZ [.agg (cU ⟨r⟩),.v (.int .i64 0)]∧(r.length:Int)<1000000:=by
 unfold N1;split
 ·cases h:raO ns i with
  | none=>exact .inl ⟨21,rfl⟩
  | some r=>exact .inr ⟨r,rfl,by rw[GH _ _ _ h];exact hn⟩
 ·exact .inl ⟨10,rfl⟩
theorem EB (ns:List Node) (hn:(ns.length:Int)<1000000) (i:Int):(∃e,N2 ns i=.dZ [.agg [.v (.slice none 0 0)],.v (.int .i64 e)])∨∃r:List Node,N2 ns i=.dZ [.agg (cU ⟨r⟩),.v (.int .i64 0)]∧(r.length:Int)<1000000:=by
 unfold N2;split
 ·cases h:coO ns i with
  | none=>exact .inl ⟨21,rfl⟩
  | some r=>exact .inr ⟨r,rfl,by rw[GH _ _ _ h];exact hn⟩
 ·exact .inl ⟨10,rfl⟩
def pay (ns:List Node) (x:Int):cK:=(nd ns x).block.jL
noncomputable def zG (ns:List Node) (p:List Int):Nat→Option Nat
 | 0=>none
 | n+1=>if pay ns (it p ((p.length-(n+1):Nat):Int))=dO then zG ns p n else some (p.length-(n+1))
noncomputable def Gw (ns:List Node) (p:List Int) (h:cK):Nat→Option Nat
 | 0=>none
 | n+1=>if pay ns (it p (n:Int))=h then some n else Gw ns p h n
noncomputable def pB (ns:List Node) (i:Int) (h:cK):Int × Int :=
 if path ns i=[] then (-1,-1)
 else if h=dO then
  match zG ns (path ns i) (path ns i).length with
  | none=>(-1,i)
  | some k=>(if k=0 then -1 else it (path ns i) ((k:Int)-1),it (path ns i) k)
 else
  match Gw ns (path ns i) h ((path ns i).length-1) with
  | none=>(-1,i)
  | some k=>(it (path ns i) k,it (path ns i) ((k:Int)+1))
noncomputable def reA (ns:List Node) (i:Int) (h:cK):AV:=.dZ [.v (.int .i64 (pB ns i h).1),.v (.int .i64 (pB ns i h).2)]
theorem EC {ns:List Node} {p:List Int}:∀(n k:Nat),n≤p.length→zG ns p n=some k→k<p.length
 | 0,k,_,h=>by simp[zG] at h
 | n+1,k,hn,h=>by
   simp only[zG] at h;split at h
   ·exact EC n k (by omega) h
   ·simp at h;omega
theorem MF {ns:List Node} {p:List Int} {h:cK}:∀(n k:Nat),Gw ns p h n=some k→k<n
 | 0,k,hk=>by simp[Gw] at hk
 | n+1,k,hk=>by
   simp only[Gw] at hk;split at hk
   ·simp at hk;omega
   ·have:=MF n k hk;omega
theorem TT {ns:List Node} {i:Int} {h:cK} (hp:path ns i=[]):pB ns i h=(-1,-1):=if_pos hp
theorem aGR {ns:List Node} {i j:Int} (i0:0≤i) (i1:i<ns.length) (j0:0≤j) (y:Node):nd (ns.set i.toNat y) j=if j=i then y else nd ns j:=by
 unfold nd;rw[List.getD_eq_getElem?_getD,List.getD_eq_getElem?_getD];by_cases h:j=i
 ·subst h;have:j.toNat<ns.length:=by omega
  simp[this]
 ·rw[if_neg h,List.getElem?_set_ne (by omega)]
theorem MG {to never:Int} (gT:to≠never):∀(l:List Int) (ns r:List Node),(∀x∈l,0≤x∧x<ns.length)→EA to never l ns=some r →
 (∀x∈l,(nd ns x).status≠never)∧r.length=ns.length∧∀j:Int,0≤j→j<ns.length→nd r j=if j∈l then Wp (nd ns j) to else nd ns j
 | [],ns,r,_,h=>by
   simp only[EA,Option.some.injEq] at h;subst h;exact⟨by simp,rfl,by simp⟩
 | i :: l,ns,r,hl,h=>by
   simp only[EA] at h;split at h
   ·cases h
   ·rename_i hs;obtain⟨i0,i1⟩:=hl i (by simp)
    obtain⟨h1,h2,h3⟩:=MG gT l (setAt ns i to) r (fun x hx=>by rw[Cp];exact hl x (by simp[hx])) h
    rw[Cp] at h2 h3;have hnd:∀j:Int,0≤j→nd (setAt ns i to) j=if j=i then Wp (nd ns i) to else nd ns j:=fun j j0=>aGR i0 i1 j0 _
    refine⟨fun x hx=>?_,h2,fun j j0 j1=>?_⟩
    ·rcases List.mem_cons.1 hx with rfl|hx
     ·exact hs
     ·by_cases hxi:x=i
      ·subst hxi;exact hs
      ·have:=h1 x hx
       rw[hnd x (hl x (by simp[hx])).1,if_neg hxi] at this
       exact this
    ·rw[h3 j j0 j1,hnd j j0];by_cases hji:j=i
     ·subst hji;simp only[if_true,List.mem_cons,true_or];split<;>rfl
     ·simp[hji]
structure TU (a b:List Node):Prop where
 len:a.length=b.length
 up:∀j:Int,0≤j→j<a.length→(nd a j).up=(nd b j).up
theorem TU.aQn {a b:List Node} (h:TU a b) (hu:iB a):iB b:=fun i i0 i1=>by rw[← h.up i (by omega) (by rw[h.len];exact i1)];exact hu i i0 (by rw[h.len];exact i1)
structure Chd (ns r:List Node) (l:List Int) (to:Int):Prop where
 len:r.length=ns.length
 at_:∀j:Int,0≤j→j<ns.length→nd r j=if j∈l then Wp (nd ns j) to else nd ns j
theorem Chd.su {ns r:List Node} {l:List Int} {to:Int} (h:Chd ns r l to):TU ns r where
 len:=h.len.symm
 up:=fun j j0 j1=>by rw[h.at_ j j0 j1];split<;>rfl
theorem Chd.block {ns r:List Node} {l:List Int} {to:Int} (h:Chd ns r l to) {j:Int} (j0:0≤j) (j1:j<ns.length):(nd r j).block=(nd ns j).block:=by
 rw[h.at_ j j0 j1];split<;>rfl
theorem Chd.upE {ns r:List Node} {l:List Int} {to:Int} (h:Chd ns r l to) {j:Int} (j0:0≤j) (j1:j<ns.length):(nd r j).up=(nd ns j).up:=by
 rw[h.at_ j j0 j1];split<;>rfl
theorem Chd.st {ns r:List Node} {l:List Int} {to:Int} (h:Chd ns r l to) {j:Int} (j0:0≤j) (j1:j<ns.length):(nd r j).status=if j∈l then to else (nd ns j).status:=by
 rw[h.at_ j j0 j1];split<;>rfl
structure aGS (ns r:List Node) (i:Int):Prop where
 c:Chd ns r (path ns i) 1
 ok:∀x∈path ns i,(nd ns x).status≠2
theorem C0 {ns r:List Node} (hu:iB ns) {i:Int} (h:raO ns i=some r):aGS ns r i:=by
 obtain⟨h1,h2,h3⟩:=MG (by decide) _ _ _ (Ve hu) h
 exact⟨⟨h2,h3⟩,h1⟩
structure aJ1 (ns r:List Node) (i:Int):Prop where
 c:Chd ns r (Ga ns i ns.length) 2
 ok:∀x∈Ga ns i ns.length,(nd ns x).status≠1
theorem ED {ns:List Node} (hu:iB ns):∀(n:Nat) (c:Int),c.toNat=n→0≤c→c<ns.length→∀k:Int,1≤k→k<(path ns c).length→(nd ns (it (path ns c) k)).up=it (path ns c) (k-1):=by
 intro n;induction n using Nat.strongRecOn with
 | _ n ih =>
   intro c hc c0 c1 k k0 k1;by_cases h:c=0
   ·subst h;rw[rR (by omega)] at k1
    simp at k1
    omega
   ·obtain⟨u0,u1⟩:=hu c (by omega) c1
    rw[rS hu (by omega) c1] at k1 ⊢
    simp at k1
    by_cases hk:k=(path ns (nd ns c).up).length
    ·rw[Co hk,mG (by omega) (by omega),hk,B7 hu u0 (by omega)]
    ·rw[mG (by omega) (by omega),mG (by omega) (by omega)]
     exact ih (nd ns c).up.toNat (by omega) _ rfl u0 (by omega) k k0 (by omega)
theorem P5 {ns:List Node} (hu:iB ns):∀(n:Nat) (c:Int),c.toNat=n→0≤c→c<ns.length→it (path ns c) 0=0:=by
 intro n;induction n using Nat.strongRecOn with
 | _ n ih =>
   intro c hc c0 c1;by_cases h:c=0
   ·subst h;rw[rR (by omega)];rfl
   ·obtain⟨u0,u1⟩:=hu c (by omega) c1
    have:=GJ hu u0 (by omega)
    rw[rS hu (by omega) c1,mG (Int.le_refl _) (by omega)]
    exact ih _ (by omega) _ rfl u0 (by omega)
theorem aQp (ns:List Node) (hu:iB ns) (hr:(nd ns 0).up=-1) (hn:(ns.length:Int)<1000000) (i:Int) (h:cK):aD Tryz.prog 237 [.agg (cU ⟨ns⟩),.v (.int .i64 i),.agg (aX h)]=some (reA ns i h):=by
 rw[cL Tryz.func237 rfl aLd rfl];unfold reA;by_cases hm:0≤i∧i<ns.length
 ·have h45:=k76 ns hu hn i hm.1 hm.2
  have hpl:=Av hu i
  have hp0:=GJ hu hm.1 hm.2
  have hin:=Ve hu (i:=i)
  have hpe:path ns i≠[]:=by intro h;rw[h] at hp0;simp at hp0
  have hq:(((path ns i).length:Int) == 0)=false:=by simp[hpe]
  have Wk:=fun k h h'=>ED hu _ i rfl hm.1 hm.2 k h h'
  have hi0:=P5 hu _ i rfl hm.1 hm.2
  unfold pB;rw[if_neg hpe];generalize path ns i=p at h45 hpl hp0 hin hq Wk hi0
  by_cases hz:h=dO
  ·have hd:decide (h=dO)=true:=decide_eq_true hz
   rw[if_pos hz];simp only[ZZ,seval,h45,hq,hd];refine lV (fun n st=>∃k:Nat,(st.env 1=.v (.int .i64 i)∧st.env 3=.ptr 3 0 0∧st.heap 3 0=some (.cells (cU ⟨ns⟩))∧st.env 8=.own 13 0∧st.heap 13 0=some (.row 3 1 p.length (aJ p))∧st.env 9=.v (.int .i64 k))∧zG ns p p.length=zG ns p (p.length-k)∧k≤p.length∧n=p.length-k)
    (fun e st=>(e=.ret∧∃k,zG ns p p.length=some k∧st.env 6=.v (.int .i64 (if k=0 then -1 else it p ((k:Int)-1)))∧st.env 7=.v (.int .i64 (it p k)))∨(e=.exit 0∧zG ns p p.length=none∧st.env 1=.v (.int .i64 i))) p.length ?step ?start ?rest
   case step =>
    rintro n st ⟨k,hI,hf,hk,Is⟩
    by_cases aZ:(k:Int)<p.length
    ·have q0:(0:Int)≤k:=by omega
     have hw:IntKind.i64.wrap ((k:Int)+1)=((k+1:Nat):Int):=by rw[Gs _ (by omega) (by omega)];omega
     obtain⟨x0,x1⟩:=hin _ (Ee q0 aZ)
     obtain⟨m,hm'⟩:∃m,p.length-k=m+1:=⟨p.length-k-1,by omega⟩
     rw[hm'] at hf;simp only[zG] at hf;rw[show p.length-(m+1)=k by omega] at hf
     by_cases hpz:pay ns (it p k)=dO
     ·rw[if_pos hpz] at hf;have hd2:decide ((nd ns (it p k)).block.jL=dO)=true:=decide_eq_true hpz
      apply oN (p.length-(k+1))
      ·simp only[ZZ,seval,hI,aZ,q0,x0,x1,hd2,hw];rfl
      ·exact⟨k+1,by simp only[EV,seval,hI],by rw[hf,show p.length-(k+1)=m by omega],by omega,rfl⟩
     ·rw[if_neg hpz] at hf;have hd2:decide ((nd ns (it p k)).block.jL=dO)=false:=decide_eq_false hpz
      have hupk:(nd ns (it p k)).up=if k=0 then -1 else it p ((k:Int)-1):=by
       by_cases vI:k=0
       ·rw[if_pos vI,show ((k:Int))=0 by omega,hi0,hr]
       ·rw[if_neg vI,Wk k (by omega) aZ]
      apply oT (.ret)
      ·simp only[ZZ,seval,hI,aZ,q0,x0,x1,hd2];rfl
      ·exact .inl ⟨rfl,k,hf,by rw[← hupk];simp only[EV,seval],by simp only[EV,seval]⟩
    ·obtain rfl:k=p.length:=by omega
     rw[Nat.sub_self] at hf;apply oT (.exit 0)
     ·simp only[ZZ,seval,hI,aZ];rfl
     ·exact .inr ⟨rfl,hf,by simp only[EV,seval,hI]⟩
   case start=>exact⟨0,by simp only[EV,seval]<;>rfl,rfl,by omega,rfl⟩
   case rest =>
    rintro e st (⟨rfl,k,hf,h6,h7⟩|⟨rfl,hf,h1⟩)
    ·rw[hf];simp only[ZZ,seval];exact dP rfl (by simp only[bY,EV,seval,h6]<;>rfl) (by simp only[bY,EV,seval,h7]<;>rfl) (by simp only[EV,seval]<;>rfl) (by simp only[EV,seval]<;>rfl)
    ·rw[hf];simp only[ZZ,seval,h1];exact dP rfl (by simp only[bY,EV,seval]<;>rfl) (by simp only[bY,EV,seval]<;>rfl) (by simp only[EV,seval]<;>rfl) (by simp only[EV,seval]<;>rfl)
  ·have hd:decide (h=dO)=false:=decide_eq_false hz
   have hw0:IntKind.i64.wrap ((p.length:Int)-2)=(p.length:Int)-2:=Gs _ (by omega) (by omega)
   rw[if_neg hz];simp only[ZZ,seval,h45,hq,hd,hw0];refine lV (fun n st=>∃m:Nat,(st.env 1=.v (.int .i64 i)∧st.env 3=.ptr 3 0 0∧st.heap 3 0=some (.cells (cU ⟨ns⟩))∧st.env 5=.ptr 5 0 0∧st.heap 5 0=some (.cells (aX h))∧st.env 8=.own 13 0∧st.heap 13 0=some (.row 3 1 p.length (aJ p))∧st.env 10=.v (.int .i64 ((m:Int)-1)))∧Gw ns p h (p.length-1)=Gw ns p h m∧m≤p.length-1∧n=m)
    (fun e st=>(e=.ret∧∃k,Gw ns p h (p.length-1)=some k∧st.env 6=.v (.int .i64 (it p k))∧st.env 7=.v (.int .i64 (it p ((k:Int)+1))))∨(e=.exit 2∧Gw ns p h (p.length-1)=none∧st.env 1=.v (.int .i64 i))) (p.length-1) ?step ?start ?rest
   case step =>
    rintro n st ⟨m,hI,hf,hm',Is⟩
    by_cases aZ:(0:Int)≤(m:Int)-1
    ·obtain⟨k,rfl⟩:∃k,m=k+1:=⟨m-1,by omega⟩
     have e1:((k+1:Nat):Int)-1=k:=by omega
     rw[e1] at hI aZ;have k1:(k:Int)<p.length:=by omega
     have hw:IntKind.i64.wrap ((k:Int)-1)=(k:Int)-1:=Gs _ (by omega) (by omega)
     obtain⟨x0,x1⟩:=hin _ (Ee aZ k1)
     simp only[Gw] at hf;by_cases hpz:pay ns (it p k)=h
     ·rw[if_pos hpz] at hf;have hd2:decide ((nd ns (it p k)).block.jL=h)=true:=decide_eq_true hpz
      have P6:IntKind.i64.wrap ((k:Int)+1)=(k:Int)+1:=Gs _ (by omega) (by omega)
      have r0:(0:Int)≤(k:Int)+1:=by omega
      have r1:(k:Int)+1<p.length:=by omega
      apply oT (.ret)
      ·simp only[ZZ,seval,hI,aZ,k1,x0,x1,hd2,P6,r0,r1];rfl
      ·exact .inl ⟨rfl,k,hf,by simp only[EV,seval],by simp only[EV,seval]⟩
     ·rw[if_neg hpz] at hf;have hd2:decide ((nd ns (it p k)).block.jL=h)=false:=decide_eq_false hpz
      apply oN (k)
      ·simp only[ZZ,seval,hI,aZ,k1,x0,x1,hd2,hw];rfl
      ·exact⟨k,by simp only[EV,seval,hI],hf,by omega,rfl⟩
    ·obtain rfl:m=0:=by omega
     apply oT (.exit 2)
     ·simp only[ZZ,seval,hI,aZ];rfl
     ·exact .inr ⟨rfl,hf,by simp only[EV,seval,hI]⟩
   case start =>
    have hs:(p.length:Int)-2=((p.length-1:Nat):Int)-1:=by omega
    exact⟨p.length-1,by simp only[EV,seval,hs],rfl,by omega,rfl⟩
   case rest =>
    rintro e st (⟨rfl,k,hf,h6,h7⟩|⟨rfl,hf,h1⟩)
    ·rw[hf];simp only[ZZ,seval];exact dP rfl (by simp only[bY,EV,seval,h6]<;>rfl) (by simp only[bY,EV,seval,h7]<;>rfl) (by simp only[EV,seval]<;>rfl) (by simp only[EV,seval]<;>rfl)
    ·rw[hf];simp only[ZZ,seval,h1];exact dP rfl (by simp only[bY,EV,seval]<;>rfl) (by simp only[bY,EV,seval]<;>rfl) (by simp only[EV,seval]<;>rfl) (by simp only[EV,seval]<;>rfl)
 ·rw[TT (yN hm)];have h45:=z8 ns i hm
  simp only[ZZ,seval,h45];exact dP rfl (by simp only[bY,EV,seval]<;>rfl) (by simp only[bY,EV,seval]<;>rfl) (by simp only[EV,seval]<;>rfl) (by simp only[EV,seval]<;>rfl)
theorem P7 (ns:List Node) (i:Int) (h:cK):Flat (reA ns i h):=.dZ _ (bI (.v _) (.v _))
theorem aQr (ns:List Node) (hu:iB ns) (hr:(nd ns 0).up=-1) (hn:(ns.length:Int)<1000000) (i:Int) (h:cK) (st:St) (d:Option Nat):aN (aD Tryz.prog) 237 [.agg (cU ⟨ns⟩),.v (.int .i64 i),.agg (aX h)] st d=some { dst:=d,val:=.dZ [.v (.int .i64 (pB ns i h).1),.v (.int .i64 (pB ns i h).2)]}:=bL (oE (nC _) (.v _) (qT _)) (aQp ns hu hr hn i h) (P7 ns i h)
theorem TV {ns:List Node} (hu:iB ns) (hr:(nd ns 0).up=-1) {i:Int} (i0:0≤i) (i1:i<ns.length) (h:cK):(pB ns i h).2∈path ns i∧((pB ns i h).1<0∨((pB ns i h).1∈path ns i∧(nd ns (pB ns i h).2).up=(pB ns i h).1)):=by
 have hp0:=GJ hu i0 i1
 have hpe:path ns i≠[]:=by intro h;rw[h] at hp0;simp at hp0
 have EE:=yM hu i0 i1
 have Wk:=fun k h h'=>ED hu _ i rfl i0 i1 k h h'
 unfold pB;rw[if_neg hpe];by_cases hz:h=dO
 ·rw[if_pos hz];cases hf:zG ns (path ns i) (path ns i).length with
  | none=>exact⟨EE,.inl (by simp)⟩
  | some k =>
    have hk:=EC _ _ (Nat.le_refl _) hf
    simp only
    refine⟨Ee (by omega) (by omega), ?_⟩
    by_cases vI:k=0
    ·rw[if_pos vI];exact .inl (by omega)
    ·rw[if_neg vI];exact .inr ⟨Ee (by omega) (by omega),Wk k (by omega) (by omega)⟩
 ·rw[if_neg hz];cases hf:Gw ns (path ns i) h ((path ns i).length-1) with
  | none=>exact⟨EE,.inl (by simp)⟩
  | some k =>
    have hk:=MF _ _ hf
    simp only
    refine⟨Ee (by omega) (by omega),.inr ⟨Ee (by omega) (by omega), ?_⟩⟩
    have:=Wk ((k:Int)+1) (by omega) (by omega)
    rw[this];congr 1
    omega
def Ws (kv:AV) (l:List Int):Prop:=kv=.sl l.length (aJ l)∨(l=[]∧kv=.v (.slice none 0 0))
theorem Ws.view {kv:AV} {l:List Int} (h:Ws kv l) (st:St):aQ st kv=some (l.length,aJ l):=by
 rcases h with rfl|⟨rfl,rfl⟩<;>rfl
theorem Ws.idx {kv:AV} {l:List Int} (h:Ws kv l) (st:St) {k:IntKind} {i:Int} (h0:0≤i) (h1:i<l.length):bD Tryz.prog st 22 kv (.v (.int k i))=some (.ip (qA (it l i)) 0):=by
 rcases h with rfl|⟨rfl,rfl⟩
 ·exact aFB st h0 h1
 ·simp at h1;omega
theorem Ws.flat {kv:AV} {l:List Int} (h:Ws kv l):Flat kv:=by
 rcases h with rfl|⟨rfl,rfl⟩
 ·exact Ky l
 ·exact .v _
def YY (ns:List Node) (c:Int) (l:List Int):Prop:=∃k∈l,Aw ns c k=true
noncomputable def P8 (ns:List Node) (i:Int) (h:cK) (l:List Int):AV :=
 if YY ns (pB ns i h).2 l then BO 21
 else if 0≤(pB ns i h).1 then
  match raO ns (pB ns i h).1 with
  | none=>BO 21
  | some r=>N2 r (pB ns i h).2
 else N2 ns (pB ns i h).2
noncomputable def TW (ns:List Node) (i:Int) (v:gQ) (l:List Int):AV :=
 if ¬(0≤i∧i<ns.length) then BO 10
 else if v.kind=1 then N1 ns i
 else if v.kind=2 then P8 ns i v.dT l
 else if v.kind=3∨v.kind=4 then .dZ [.agg (cU ⟨ns⟩),.v (.int .i64 0)]
 else BO 2
theorem C1 (ns:List Node) (i:Int) (h:cK) (l:List Int):Flat (P8 ns i h l):=by
 unfold P8;split
 ·exact vL _
 ·split
  ·split
   ·exact vL _
   ·exact Wq _ _
  ·exact Wq _ _
theorem C2 (ns:List Node) (i:Int) (v:gQ) (l:List Int):Flat (TW ns i v l):=by
 unfold TW;split
 ·exact vL _
 ·split
  ·exact ME _ _
  ·split
   ·exact C1 _ _ _ _
   ·split
    ·exact .dZ _ (bI (nC _) (.v _))
    ·exact vL _
theorem aQs (ns:List Node) (hu:iB ns) (hr:(nd ns 0).up=-1) (hn:(ns.length:Int)<1000000) (i:Int) (v:gQ) (l:List Int) (hl:(l.length:Int)<1000000) {kv:AV} (hkv:Ws kv l) :
 aD Tryz.prog 222 [.agg (cU ⟨ns⟩),.v (.int .i64 i),.agg (dG v),kv]=some (TW ns i v l):=by
 rw[cL Tryz.func222 rfl aLe (by rcases hkv with rfl|⟨rfl,rfl⟩<;>rfl)]
 have h86:=SR ns i
 unfold TW;by_cases hm:0≤i∧i<ns.length
 ·obtain⟨i0,i1⟩:=hm
  have hd:(decide (0≤i) && decide (i<(ns.length:Int)))=true:=by simp[i0,i1]
  rw[hd] at h86;rw[if_neg (by simp[i0,i1])]
  by_cases h1:v.kind=1
  ·rw[if_pos h1];have b1:(v.kind == 1)=true:=by simp[h1]
   have h96:=aLb ns hu hn i
   rcases B9 ns hn i with ⟨e,he⟩|⟨q,he,_⟩
   all_goals
    rw[he] at h96;rw[he];simp only[ZZ,seval,h86,b1,h96,eC];exact dP rfl (by simp only[bY,ZZ,seval];rfl) (by simp only[bY,EV,seval]<;>rfl) (by simp only[EV,seval]<;>rfl) (by simp only[EV,seval]<;>rfl)
  ·rw[if_neg h1];have b1:(v.kind == 1)=false:=by simp[h1]
   by_cases h2:v.kind=2
   ·rw[if_pos h2];have b2:(v.kind == 2)=true:=by simp[h2]
    have b3:(v.kind == 3)=false:=by simp[h2]
    have b4:(v.kind == 4)=false:=by simp[h2]
    have hRe:=aQr ns hu hr hn i v.dT
    have hfact:=TV hu hr i0 i1 v.dT
    have hv:=hkv.view
    have hix:=fun st (k:IntKind) (i:Int) h0 h1=>hkv.idx st (k:=k) (i:=i) h0 h1
    have h46:=Nc ns hu hn
    unfold P8;obtain⟨a,ha⟩:∃a,(pB ns i v.dT).1=a:=⟨_,rfl⟩
    obtain⟨c,hc⟩:∃c,(pB ns i v.dT).2=c:=⟨_,rfl⟩
    rw[ha,hc] at hRe hfact;rw[ha,hc];simp only[ZZ,seval,h86,b1,b2,b3,b4,hRe,eC];refine lV (fun n st=>∃k:Nat,(st.env 3=kv∧st.env 4=.ptr 4 0 0∧st.heap 4 0=some (.cells (cU ⟨ns⟩))∧st.env 8=.ptr 8 0 0∧st.heap 8 0=some (.cells [.v (.slice none 0 0)])∧st.env 10=.v (.int .i64 a)∧st.env 11=.v (.int .i64 c)∧st.env 12=.v (.int .i64 k))∧(∀j:Int,0≤j→j<k→Aw ns c (it l j)=false)∧k≤l.length∧n=l.length-k)
     (fun e st=>(e=.ret∧YY ns c l∧st.env 8=.ptr 8 0 0∧st.heap 8 0=some (.cells [.v (.slice none 0 0)])∧st.env 9=.v (.int .i64 21))∨(e=.exit 1∧¬YY ns c l∧st.env 4=.ptr 4 0 0∧st.heap 4 0=some (.cells (cU ⟨ns⟩))∧st.env 8=.ptr 8 0 0∧st.heap 8 0=some (.cells [.v (.slice none 0 0)])∧st.env 10=.v (.int .i64 a)∧st.env 11=.v (.int .i64 c))) l.length ?step ?start ?rest
    case step =>
     rintro n st ⟨k,hI,hj,hk,Is⟩
     by_cases aZ:(k:Int)<l.length
     ·have q0:(0:Int)≤k:=by omega
      have hw:IntKind.i64.wrap ((k:Int)+1)=((k+1:Nat):Int):=by rw[Gs _ (by omega) (by omega)];omega
      cases hA:Aw ns c (it l k)
      ·apply oN (l.length-(k+1))
       ·simp only[ZZ,seval,hI,aZ,q0,hv,hix,h46,hA,hw];rfl
       ·exact⟨k+1,by simp only[EV,seval,hI],fun j j0 j1=>by
        by_cases hjk:j<k
        ·exact hj j j0 hjk
        ·rw[show j=(k:Int) by omega];exact hA,by omega,rfl⟩
      ·apply oT (.ret)
       ·simp only[ZZ,seval,hI,aZ,q0,hv,hix,h46,hA];rfl
       ·exact .inl ⟨rfl,⟨_,Ee q0 aZ,hA⟩,by simp only[EV,seval,hI],by simp only[EV,seval,hI],by simp only[EV,seval,hI]⟩
     ·obtain rfl:k=l.length:=by omega
      have hno:¬YY ns c l:=by
       rintro⟨x,hx,hxa⟩
       obtain⟨j,N3,rfl⟩:=List.getElem_of_mem hx
       have:=hj j (by omega) (by omega)
       rw[show it l (j:Int)=l[j] by simp[it,N3]] at this
       rw[this] at hxa;cases hxa
      apply oT (.exit 1)
      ·simp only[ZZ,seval,hI,hv,aZ];rfl
      ·exact .inr ⟨rfl,hno,by simp only[EV,seval,hI]⟩
    case start=>exact⟨0,by simp only[EV,seval],fun j _ _=>by omega,by omega,by omega⟩
    case rest =>
     rintro e st (⟨rfl,hk,hI⟩|⟨rfl,hk,hI⟩)
     ·rw[if_pos hk];simp only[ZZ,seval];exact dP rfl (by simp only[bY,ZZ,seval,hI];rfl) (by simp only[bY,EV,seval,hI]<;>rfl) (by simp only[EV,seval]<;>rfl) (by simp only[EV,seval]<;>rfl)
     ·rw[if_neg hk];by_cases h0:0≤a
      ·rw[if_pos h0];have nM:a∈path ns i:=by
        rcases hfact.2 with h|h
        ·omega
        ·exact h.1
       obtain⟨_,a1⟩:=Ve hu a nM
       have h96:=aLb ns hu hn a
       rw[show N1 ns a=stA (raO ns a) from if_pos ⟨h0,a1⟩] at h96;cases ho:raO ns a with
       | none =>
         rw[ho] at h96;simp only[stA,BO] at h96;simp only[ZZ,seval,hI,h0,h96,eC];exact dP rfl (by simp only[bY,ZZ,seval,hI];rfl) (by simp only[bY,EV,seval,hI]<;>rfl) (by simp only[EV,seval]<;>rfl) (by simp only[EV,seval]<;>rfl)
       | some r =>
         rw[ho] at h96;simp only[stA] at h96;have hR:=C0 hu ho
         have hu2:=hR.c.su.aQn hu
         have h97:=aLc r hu2 (by rw[hR.c.len];exact hn) c
         rcases EB r (by rw[hR.c.len];exact hn) c with ⟨e,he⟩|⟨q,he,_⟩
         all_goals
          rw[he] at h97;simp only[he];simp only[ZZ,seval,hI,h0,h96,h97,eC];exact dP rfl (by simp only[bY,ZZ,seval,hI];rfl) (by simp only[bY,EV,seval,hI]<;>rfl) (by simp only[EV,seval]<;>rfl) (by simp only[EV,seval]<;>rfl)
      ·rw[if_neg h0];have h97:=aLc ns hu hn c
       rcases EB ns hn c with ⟨e,he⟩|⟨q,he,_⟩
       all_goals
        rw[he] at h97;rw[he];simp only[ZZ,seval,hI,h0,h97,eC];exact dP rfl (by simp only[bY,ZZ,seval,hI];rfl) (by simp only[bY,EV,seval,hI]<;>rfl) (by simp only[EV,seval]<;>rfl) (by simp only[EV,seval]<;>rfl)
   ·rw[if_neg h2];have b2:(v.kind == 2)=false:=by simp[h2]
    by_cases h3:v.kind=3
    ·rw[if_pos (.inl h3)];have b3:(v.kind == 3)=true:=by simp[h3]
     simp only[ZZ,seval,h86,b1,b2,b3];exact dP rfl (by simp only[bY,ZZ,seval];rfl) (by simp only[bY,EV,seval]<;>rfl) (by simp only[EV,seval]<;>rfl) (by simp only[EV,seval]<;>rfl)
    ·have b3:(v.kind == 3)=false:=by simp[h3]
     by_cases h4:v.kind=4
     ·rw[if_pos (.inr h4)];have b4:(v.kind == 4)=true:=by simp[h4]
      simp only[ZZ,seval,h86,b1,b2,b3,b4];exact dP rfl (by simp only[bY,ZZ,seval];rfl) (by simp only[bY,EV,seval]<;>rfl) (by simp only[EV,seval]<;>rfl) (by simp only[EV,seval]<;>rfl)
     ·rw[if_neg (by omega)]
      have b4:(v.kind == 4)=false:=by simp[h4]
      simp only[ZZ,seval,h86,b1,b2,b3,b4];exact dP rfl (by simp only[bY,ZZ,seval];rfl) (by simp only[bY,EV,seval]<;>rfl) (by simp only[EV,seval]<;>rfl) (by simp only[EV,seval]<;>rfl)
 ·rw[if_pos hm];have hd:(decide (0≤i) && decide (i<(ns.length:Int)))=false:=by
   by_cases h0:0≤i
   ·have:¬i<ns.length:=fun h=>hm ⟨h0,h⟩
    simp[this]
   ·simp[h0]
  rw[hd] at h86;simp only[ZZ,seval,h86];exact dP rfl (by simp only[bY,ZZ,seval];rfl) (by simp only[bY,EV,seval]<;>rfl) (by simp only[EV,seval]<;>rfl) (by simp only[EV,seval]<;>rfl)
end Go.Ab.Tryz
