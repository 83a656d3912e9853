/-
  Part 10 of the proof: an evaluator of programs, its soundness, and what functions of this program compute.
-/
import Derived.Test.YtmcjkemalibacaaGreatK9
import Derived.Test.YtmcjkemalibacaaGreatK7
set_option linter.all false
set_option maxRecDepth 20000
set_option maxHeartbeats 40000000
namespace Go.Ab.Tryz
open Classical Go.Proofs Go.Ab
theorem aBC:Flat (.agg [.v (.slice none 0 0)]):=.agg _ (by simp;exact .v _)
theorem Is (x m:Int) (hm:0≤m∧m<9223372036854775808):0≤IntKind.i64.wrap ↑(BitVec.ofInt IntKind.i64.bits x &&& BitVec.ofInt IntKind.i64.bits m).toNat∧IntKind.i64.wrap ↑(BitVec.ofInt IntKind.i64.bits x &&& BitVec.ofInt IntKind.i64.bits m).toNat≤m:=by
 have h0:(BitVec.ofInt IntKind.i64.bits x &&& BitVec.ofInt IntKind.i64.bits m).toNat≤(BitVec.ofInt IntKind.i64.bits m).toNat:=by rw[BitVec.toNat_and];exact Nat.and_le_right
 have hb:IntKind.i64.bits=64:=rfl
 have h:(BitVec.ofInt IntKind.i64.bits (m:Int)).toNat=m.toNat:=by
  rw[BitVec.toNat_ofInt,hb];omega
 rw[h] at h0;rw[Gt _ (by omega) (by omega)]
 omega
theorem SM {i n:Int} (h:0≤i) (hn:0<n):0≤i.tdiv n∧i.tdiv n≤i:=by
 rw[Int.tdiv_eq_ediv_of_nonneg h];exact⟨Int.ediv_nonneg h (by omega),Int.ediv_le_self n h⟩
theorem eG {i n:Int} (h:0≤i) (hn:0<n):0≤i.tmod n∧i.tmod n<n:=by
 rw[Int.tmod_eq_emod_of_nonneg h];exact⟨Int.emod_nonneg i (by omega),Int.emod_lt_of_pos i hn⟩
theorem Ar {i:Int} (h:0≤i) (s:Nat):0≤i.fdiv (2 ^ s):=by
 have h2:(0:Int)≤2 ^ s:=Int.pow_nonneg (by decide)
 rw[Int.fdiv_eq_ediv_of_nonneg _ h2];exact Int.ediv_nonneg h h2
theorem aJe (l:List Int) (hl:(l.length:Int)≤9223372036854775807) (i:Int) (i0:0≤i) (i1:i<1000000):∃k:Int,aC Tryz.prog 145 [.sl l.length (aJ l),.v (.int .i64 i)]=some (.v (.int .i64 k))∧0≤k∧k≤17777215:=by
 rw[cL Tryz.func145 rfl aJf rfl];by_cases h:(l.length:Int)=0
 ·have hq:((l.length:Int) == 0)=true:=by simp[h]
  simp only[ZZ,seval,hq];obtain⟨b1,b2⟩:=Is i 65535 (by decide)
  exact⟨_,bW rfl (by simp only[EV,seval]<;>rfl) (.v _),b1,by omega⟩
 ·have hq:((l.length:Int) == 0)=false:=by rw[beq_eq_false_iff_ne];exact h
  obtain⟨m1,m2⟩:=eG (n:=(l.length:Int)) i0 (by omega)
  obtain⟨d1,d2⟩:=SM (n:=(l.length:Int)) i0 (by omega)
  simp only[ZZ,seval,hq,h,m1,m2];obtain⟨b1,b2⟩:=Is (it l (i.tmod ↑l.length)) 16777215 (by decide)
  refine⟨_,bW rfl (by simp only[EV,seval]<;>rfl) (.v _), ?_, ?_⟩
  all_goals
   rw[Gt (i.tdiv ↑l.length) (by omega) (by omega),Gt _ (by omega) (by omega)]
   omega
noncomputable def FM (l:List Int) (i:Int):Int:=if h:((l.length:Int)≤9223372036854775807∧0≤i∧i<1000000) then Classical.choose (aJe l h.1 i h.2.1 h.2.2) else 0
theorem Nb (l:List Int) (hl:(l.length:Int)≤9223372036854775807) (i:Int) (i0:0≤i) (i1:i<1000000):aC Tryz.prog 145 [.sl l.length (aJ l),.v (.int .i64 i)]=some (.v (.int .i64 (FM l i)))∧0≤FM l i∧FM l i≤17777215:=by
 have h:((l.length:Int)≤9223372036854775807∧0≤i∧i<1000000):=⟨hl,i0,i1⟩
 unfold FM;rw[dif_pos h];exact Classical.choose_spec (aJe l h.1 i h.2.1 h.2.2)
theorem Nc (l:List Int) (hl:(l.length:Int)≤9223372036854775807) (i:Int) (i0:0≤i) (i1:i<1000000) (st:St) (d:Option Nat):aL (aC Tryz.prog) 145 [.sl l.length (aJ l),.v (.int .i64 i)] st d=some { dst:=d,val:=.v (.int .i64 (FM l i))}:=bK (bH (Qi l) (.v _)) (Nb l hl i i0 i1).1 (.v _)
def mkRoot (n:Int):cK:=((dL.set 0 (IntKind.u8.wrap n)).set 1 (IntKind.u8.wrap (n.fdiv (2 ^ min 8 IntKind.i64.bits)))).set 31 (IntKind.u8.wrap (IntKind.i64.wrap (n * 7)))
theorem c30 (n:Int):aC Tryz.prog 30 [.v (.int .i64 n)]=some (.agg (aX (mkRoot n))):=by
 rw[cL Tryz.func30 rfl aOa rfl];simp only[ZZ,seval,Vv,Nat.reduceLT];exact fL rfl (by simp only[EV,seval];rfl) (by simp only[ZZ,seval];rfl) (.agg _ (dJ _))
theorem Qj (n:Int) (st:St) (d:Option Nat):aL (aC Tryz.prog) 30 [.v (.int .i64 n)] st d=some { dst:=d,val:=.agg (aX (mkRoot n))}:=bK (cV (.v _)) (c30 n) (qK _)
theorem aOb (b:Block) (s:Int):aC Tryz.prog 157 [.agg (aU b),.v (.int .i64 s)]=some (.agg (cX ⟨[⟨b,-1,s⟩]⟩)):=by
 rw[cL Tryz.func157 rfl aJg rfl];simp only[ZZ,seval];exact eH rfl (by simp only[EV,seval];rfl) (by simp only[ZZ,seval];rfl) (by simp only[EV,seval,Option.map_some]<;>rfl)
theorem aOc (b:Block) (s:Int) (st:St) (d:Option Nat):aL (aC Tryz.prog) 157 [.agg (aU b),.v (.int .i64 s)] st d=some { dst:=d,val:=.agg (cX ⟨[⟨b,-1,s⟩]⟩)}:=bK (bH (uT _) (.v _)) (aOb b s) (nC _)
theorem l5 (i:Int) (st:St) (d:Option Nat):aL (aC Tryz.prog) 186 [.v (.int .i64 i)] st d=some { dst:=d,val:=.v (.bool (SN i))}:=bK (cV (.v _)) (aOd i) (.v _)
theorem mT (ns:List Node) (r:cK) (hn:(ns.length:Int)<1000000) (st:St) (d:Option Nat):aL (aC Tryz.prog) 46 [.agg (cX ⟨ns⟩),.agg (aX r)] st d=some { dst:=d,val:=.v (.int .i64 (aN ns r))}:=bK (bH (nC _) (qK _)) (c46 ns r hn) (.v _)
noncomputable def Tt (ns:List Node) (b:Block) (s:Int):Int :=
 if SN s=false then 2 else if 0≤aN ns b.root then 9 else if aN ns b.parent<0 then 10 else if b.slot≤(nd ns (aN ns b.parent)).block.slot then 14 else if 4096≤(ns.length:Int) then 11 else 0
noncomputable def Ec (ns:List Node) (b:Block) (s:Int):AV :=
 if Tt ns b s=0 then .eN [.agg (cX ⟨ns++[⟨b,aN ns b.parent,s⟩]⟩),.v (.int .i64 0)] else .eN [.agg [.v (.slice none 0 0)],.v (.int .i64 (Tt ns b s))]
theorem fY (ns:List Node) (r:cK):-1≤aN ns r∧aN ns r<ns.length:=by
 unfold aN;cases h:ns.findIdx? (fun n=>decide (n.block.root=r)) with
 | none=>simp only;omega
 | some k =>
   have:=(List.findIdx?_eq_some_iff_getElem.1 h).1
   simp only;omega
theorem aOe (ns:List Node) (hn:(ns.length:Int)<1000000) (b:Block) (s:Int):aC Tryz.prog 149 [.agg (cX ⟨ns⟩),.agg (aU b),.v (.int .i64 s)]=some (Ec ns b s):=by
 rw[cL Tryz.func149 rfl aJh rfl];have hu:=fY ns b.parent
 cases hs:SN s
 ·simp only[ZZ,seval,l5,hs];rw[show Ec ns b s=.eN [.agg [.v (.slice none 0 0)],.v (.int .i64 2)] from by simp[Ec,Tt,hs]]
  exact dO rfl (by simp only[bV,ZZ,seval];rfl) (by simp only[bV,EV,seval]<;>rfl) (by simp only[EV,seval]<;>rfl) (by simp only[EV,seval]<;>rfl)
 by_cases h1:0≤aN ns b.root
 ·simp only[ZZ,seval,l5,hs,mT,hn,h1];rw[show Ec ns b s=.eN [.agg [.v (.slice none 0 0)],.v (.int .i64 9)] from by simp[Ec,Tt,hs,h1]]
  exact dO rfl (by simp only[bV,ZZ,seval];rfl) (by simp only[bV,EV,seval]<;>rfl) (by simp only[EV,seval]<;>rfl) (by simp only[EV,seval]<;>rfl)
 by_cases h2:aN ns b.parent<0
 ·simp only[ZZ,seval,l5,hs,mT,hn,h1,h2];rw[show Ec ns b s=.eN [.agg [.v (.slice none 0 0)],.v (.int .i64 10)] from by simp[Ec,Tt,hs,h1,h2]]
  exact dO rfl (by simp only[bV,ZZ,seval];rfl) (by simp only[bV,EV,seval]<;>rfl) (by simp only[EV,seval]<;>rfl) (by simp only[EV,seval]<;>rfl)
 have u0:0≤aN ns b.parent:=by omega
 have u1:aN ns b.parent<ns.length:=hu.2
 by_cases h3:b.slot≤(nd ns (aN ns b.parent)).block.slot
 ·simp only[ZZ,seval,l5,hs,mT,hn,h1,h2,u0,u1,h3];rw[show Ec ns b s=.eN [.agg [.v (.slice none 0 0)],.v (.int .i64 14)] from by simp[Ec,Tt,hs,h1,h2,h3]]
  exact dO rfl (by simp only[bV,ZZ,seval];rfl) (by simp only[bV,EV,seval]<;>rfl) (by simp only[EV,seval]<;>rfl) (by simp only[EV,seval]<;>rfl)
 by_cases h4:4096≤(ns.length:Int)
 ·simp only[ZZ,seval,l5,hs,mT,hn,h1,h2,u0,u1,h3,h4];rw[show Ec ns b s=.eN [.agg [.v (.slice none 0 0)],.v (.int .i64 11)] from by simp[Ec,Tt,hs,h1,h2,h3,h4]]
  exact dO rfl (by simp only[bV,ZZ,seval];rfl) (by simp only[bV,EV,seval]<;>rfl) (by simp only[EV,seval]<;>rfl) (by simp only[EV,seval]<;>rfl)
 ·simp only[ZZ,seval,l5,hs,mT,hn,h1,h2,u0,u1,h3,h4];rw[show Ec ns b s=.eN [.agg (cX ⟨ns++[⟨b,aN ns b.parent,s⟩]⟩),.v (.int .i64 0)] from by simp[Ec,Tt,hs,h1,h2,h3,h4]]
  exact dO rfl (by simp only[bV,ZZ,seval];rfl) (by simp only[bV,EV,seval]<;>rfl) (by simp only[EV,seval]<;>rfl) (by simp only[EV,seval]<;>rfl)
theorem l6 (ns:List Node) (b:Block) (s:Int):Flat (Ec ns b s):=by
 unfold Ec;split
 ·exact .eN _ (bH (nC _) (.v _))
 ·exact .eN _ (bH aBC (.v _))
theorem aJi (ns:List Node) (hn:(ns.length:Int)<1000000) (b:Block) (s:Int) (st:St) (d:Option Nat):aL (aC Tryz.prog) 149 [.agg (cX ⟨ns⟩),.agg (aU b),.v (.int .i64 s)] st d=some { dst:=d,val:=Ec ns b s }:=bK (nD (nC _) (uT _) (.v _)) (aOe ns hn b s) (l6 ns b s)
theorem aOf (n:Int):aC Tryz.prog 188 [.v (.int .u64 n)]=some (.v (.bool (decide (1≤n) && decide (n≤64)))):=by
 rw[cL Tryz.func188 rfl aJj rfl];by_cases h:1≤n
 all_goals
  simp only[Z8,seval,h,decide_true,decide_false,Bool.true_and,Bool.false_and];exact bW rfl (by simp only[E8,seval,h,decide_true,decide_false,Bool.true_and,Bool.false_and]<;>rfl) (.v _)
theorem aJk (n:Int) (st:St) (d:Option Nat):aL (aC Tryz.prog) 188 [.v (.int .u64 n)] st d=some { dst:=d,val:=.v (.bool (decide (1≤n) && decide (n≤64)))}:=bK (cV (.v _)) (aOf n) (.v _)
noncomputable def l7 (a b:Int):Int × Int:=if b≠0∧IntKind.u64.wrap (Int.tdiv 18446744073709551615 b)<a then (0,4) else (IntKind.u64.wrap (a * b),0)
theorem aOg (a b:Int):aC Tryz.prog 189 [.v (.int .u64 a),.v (.int .u64 b)]=some (.eN [.v (.int .u64 (l7 a b).1),.v (.int .i64 (l7 a b).2)]):=by
 rw[cL Tryz.func189 rfl aJl rfl];unfold l7;by_cases h:b=0
 ·rw[if_neg (fun k=>k.1 h)]
  have hb:(b != 0)=false:=by simp[h]
  simp only[Z8,seval,hb];exact dO rfl rfl rfl (by simp only[E8,seval]<;>rfl) (by simp only[E8,seval]<;>rfl)
 ·have hb:(b != 0)=true:=by simp[h]
  have XR:(b=0)=False:=eq_false h
  by_cases h2:IntKind.u64.wrap (Int.tdiv 18446744073709551615 b)<a
  ·rw[if_pos ⟨h,h2⟩];simp only[Z8,seval,hb,XR,h2];exact dO rfl rfl rfl (by simp only[E8,seval]<;>rfl) (by simp only[E8,seval]<;>rfl)
  ·rw[if_neg (fun k=>h2 k.2)]
   simp only[Z8,seval,hb,XR,h2];exact dO rfl rfl rfl (by simp only[E8,seval]<;>rfl) (by simp only[E8,seval]<;>rfl)
theorem aOh (a b:Int) (st:St) (d:Option Nat):aL (aC Tryz.prog) 189 [.v (.int .u64 a),.v (.int .u64 b)] st d=some { dst:=d,val:=.eN [.v (.int .u64 (l7 a b).1),.v (.int .i64 (l7 a b).2)]}:=bK (bH (.v _) (.v _)) (aOg a b) (.eN _ (bH (.v _) (.v _)))
noncomputable def KW (e p:Int):Int × Int:=if 1≤p∧p≤64 then l7 e p else (0,3)
theorem aOi (e p:Int):aC Tryz.prog 155 [.v (.int .u64 e),.v (.int .u64 p)]=some (.eN [.v (.int .u64 (KW e p).1),.v (.int .i64 (KW e p).2)]):=by
 rw[cL Tryz.func155 rfl aJm rfl];unfold KW;by_cases h:1≤p∧p≤64
 ·have h1:(decide (1≤p) && decide (p≤64))=true:=by simp[h]
  rw[if_pos h];simp only[Z8,seval,aJk,h1,aOh,eB];exact dO rfl rfl rfl (by simp only[E8,seval]<;>rfl) (by simp only[E8,seval]<;>rfl)
 ·have h1:(decide (1≤p) && decide (p≤64))=false:=by
   rw[Bool.eq_false_iff];intro k;simp at k;exact h k
  rw[if_neg h];simp only[Z8,seval,aJk,h1];exact dO rfl rfl rfl (by simp only[E8,seval]<;>rfl) (by simp only[E8,seval]<;>rfl)
theorem aOj (e p:Int) (st:St) (d:Option Nat):aL (aC Tryz.prog) 155 [.v (.int .u64 e),.v (.int .u64 p)] st d=some { dst:=d,val:=.eN [.v (.int .u64 (KW e p).1),.v (.int .i64 (KW e p).2)]}:=bK (bH (.v _) (.v _)) (aOi e p) (.eN _ (bH (.v _) (.v _)))
theorem aOk (n a b:Int):aC Tryz.prog 156 [.v (.int .i64 n),.v (.int .i64 a),.v (.int .i64 b)]=some (.v (.bool (decide (a≤n) && decide (n≤b)))):=by
 rw[cL Tryz.func156 rfl aJn rfl];by_cases h:a≤n
 all_goals
  simp only[Z8,seval,h,decide_true,decide_false,Bool.true_and,Bool.false_and];exact bW rfl (by simp only[E8,seval,h,decide_true,decide_false,Bool.true_and,Bool.false_and]<;>rfl) (.v _)
theorem aOl (n a b:Int) (st:St) (d:Option Nat):aL (aC Tryz.prog) 156 [.v (.int .i64 n),.v (.int .i64 a),.v (.int .i64 b)] st d=some { dst:=d,val:=.v (.bool (decide (a≤n) && decide (n≤b)))}:=bK (nD (.v _) (.v _) (.v _)) (aOk n a b) (.v _)
noncomputable def AX (a b:Int):Int × Int:=if IntKind.u64.wrap (18446744073709551615-b)<a then (0,4) else (IntKind.u64.wrap (a+b),0)
theorem aOm (a b:Int):aC Tryz.prog 196 [.v (.int .u64 a),.v (.int .u64 b)]=some (.eN [.v (.int .u64 (AX a b).1),.v (.int .i64 (AX a b).2)]):=by
 rw[cL Tryz.func196 rfl aJo rfl];unfold AX;by_cases h:IntKind.u64.wrap (18446744073709551615-b)<a
 ·rw[if_pos h];simp only[Z8,seval,h];exact dO rfl rfl rfl (by simp only[E8,seval]<;>rfl) (by simp only[E8,seval]<;>rfl)
 ·rw[if_neg h];simp only[Z8,seval,h];exact dO rfl rfl rfl (by simp only[E8,seval]<;>rfl) (by simp only[E8,seval]<;>rfl)
theorem aFx (a b:Int) (st:St) (d:Option Nat):aL (aC Tryz.prog) 196 [.v (.int .u64 a),.v (.int .u64 b)] st d=some { dst:=d,val:=.eN [.v (.int .u64 (AX a b).1),.v (.int .i64 (AX a b).2)]}:=bK (bH (.v _) (.v _)) (aOm a b) (.eN _ (bH (.v _) (.v _)))
theorem DF (l:List Int):∀c∈bD l,dY c:=by rw[KX];intro c hc;obtain⟨x,_,rfl⟩:=List.mem_map.1 hc;exact .v _
theorem yG {ns:List Node} (h:iD ns) {i:Int} (i0:0≤i) (i1:i<ns.length):i∈path ns i:=by
 by_cases hi:i=0
 ·subst hi;rw[rE (by omega)];simp
 ·rw[rG h (by omega) i1];simp
theorem Vw {ns:List Node} (h:iD ns):∀(k:Nat) (i:Int),i.toNat=k→0≤i→i<ns.length→∀x∈path ns i,0≤x∧x≤i:=by
 intro k;induction k using Nat.strongRecOn with
 | _ k ih =>
   intro i hk i0 i1 x hx;by_cases hi:i=0
   ·subst hi;rw[rE (by omega)] at hx;simp at hx;omega
   ·obtain⟨u0,u1⟩:=h i (by omega) i1
    rw[rG h (by omega) i1] at hx
    rcases List.mem_append.1 hx with hx|hx
    ·have:=ih (nd ns i).up.toNat (by omega) _ rfl u0 (by omega) x hx
     omega
    ·simp at hx;omega
theorem vB {ns:List Node} (h:iD ns) {i x:Int} (hx:x∈path ns i):0≤x∧x<ns.length:=by
 by_cases hi:0≤i∧i<ns.length
 ·have:=Vw h _ i rfl hi.1 hi.2 x hx;omega
 ·rw[yH hi] at hx;simp at hx
def Ed (ns:List Node) (s:Int) (l:List Int):Int:=l.foldl (fun r x=>if (nd ns x).block.slot≤s then x else r) (-1)
def FN (ns:List Node) (i s:Int):Int:=Ed ns s (path ns i)
theorem Vx (ns:List Node) (s:Int) (l:List Int) (x:Int):Ed ns s (l++[x])=if (nd ns x).block.slot≤s then x else Ed ns s l:=by simp[Ed]
theorem KY {ns:List Node} {i:Int} (s:Int) (h:¬(0≤i∧i<ns.length)):FN ns i s=-1:=by unfold FN;rw[yH h];rfl
theorem aBD {l:List Int} {j:Int} (j0:0≤j) (j1:j<l.length):l.take (j+1).toNat=l.take j.toNat++[it l j]:=by
 obtain⟨h,e⟩:=xA j0 j1
 rw[e,show (j+1).toNat=j.toNat+1 by omega,List.take_succ_eq_append_getElem h]
theorem Ee {l:List Int} {j:Int} (j0:0≤j) (j1:j<l.length):it l j∈l:=by
 obtain⟨h,e⟩:=xA j0 j1
 rw[e];exact List.getElem_mem h
theorem aOn (ns:List Node) (hu:iD ns) (hn:(ns.length:Int)<1000000) (i s:Int):aC Tryz.prog 100 [.agg (cX ⟨ns⟩),.v (.int .i64 i),.v (.int .u64 s)]=some (.v (.int .i64 (FN ns i s))):=by
 rw[cL Tryz.func100 rfl aJp rfl];by_cases hv:0≤i∧i<ns.length
 ·have hl:((path ns i).length:Int)<1000000:=by have:=As hu i;omega
  have hp:=k76 ns hu hn i hv.1 hv.2
  have hrg:∀x∈path ns i,0≤x∧x<ns.length:=fun x=>vB hu
  unfold FN;generalize path ns i=p at hl hp hrg
  simp only[ZZ,seval,hp];refine lV (fun n st=>∃j:Int,st.env 2=.v (.int .u64 s)∧st.env 3=.ptr 3 0 0∧st.heap 3 0=some (.cells (cX ⟨ns⟩))∧st.env 8=.own 12 0∧st.heap 12 0=some (.row 3 1 p.length (aJ p))∧st.env 9=.v (.int .i64 j)∧st.env 7=.v (.int .i64 (Ed ns s (p.take j.toNat)))∧0≤j∧j≤p.length∧n=(p.length-j).toNat)
   (fun e st=>e=.exit 0∧st.env 7=.v (.int .i64 (Ed ns s p))) p.length ?step ?start ?rest
  case step =>
   rintro n st ⟨j,h2,h3,SO,h8,hh8,h9,h7,j0,j1,Iq⟩
   by_cases bA:j<p.length
   ·have hw:IntKind.i64.wrap (j+1)=j+1:=Gt _ (by omega) (by omega)
    obtain⟨x0,x1⟩:=hrg _ (Ee j0 bA)
    have ht:=aBD j0 bA
    by_cases hs:(nd ns (it p j)).block.slot≤s
    ·apply oN ((p.length-(j+1)).toNat)
     ·simp only[ZZ,seval,h2,h3,SO,h8,hh8,h9,bA,j0,hw,x0,x1,hs];rfl
     ·exact⟨j+1,by simp only[EV,seval,h2],by simp only[EV,seval,h3],by simp only[EV,seval,SO],by simp only[EV,seval,h8],by simp only[EV,seval,hh8],(by simp only[EV,seval]),by simp only[EV,seval,ht,Vx,hs],by omega,by omega,rfl⟩
    ·apply oN ((p.length-(j+1)).toNat)
     ·simp only[ZZ,seval,h2,h3,SO,h8,hh8,h9,bA,j0,hw,x0,x1,hs];rfl
     ·exact⟨j+1,by simp only[EV,seval,h2],by simp only[EV,seval,h3],by simp only[EV,seval,SO],by simp only[EV,seval,h8],by simp only[EV,seval,hh8],(by simp only[EV,seval]),by simp only[EV,seval,ht,Vx,hs,h7],by omega,by omega,rfl⟩
   ·have ht:p.take j.toNat=p:=List.take_of_length_le (by omega)
    apply oT (.exit 0)
    ·simp only[ZZ,seval,h2,h3,SO,h8,hh8,h9,bA,j0];rfl
    ·exact⟨rfl,by rw[← ht];exact h7⟩
  case start=>exact⟨0,(by simp only[EV,seval]),(by simp only[EV,seval]),(by simp only[EV,seval]),(by simp only[EV,seval]),(by simp only[EV,seval]),(by simp only[EV,seval]),(by simp only[EV,seval];rfl),by omega,by omega,by omega⟩
  case rest =>
   rintro e st ⟨rfl,h⟩
   simp only[ZZ,seval,h];exact bW rfl (by simp only[EV,seval]) (.v _)
 ·rw[KY s hv];simp only[ZZ,seval,l8 ns i hv,Gu,Int.natCast_zero,Int.lt_irrefl,decide_false];exact bW rfl (by simp only[EV,seval]) (.v _)
theorem KZ (ns:List Node) (hu:iD ns) (hn:(ns.length:Int)<1000000) (i s:Int) (st:St) (d:Option Nat):aL (aC Tryz.prog) 100 [.agg (cX ⟨ns⟩),.v (.int .i64 i),.v (.int .u64 s)] st d=some { dst:=d,val:=.v (.int .i64 (FN ns i s))}:=bK (nD (nC _) (.v _) (.v _)) (aOn ns hu hn i s) (.v _)
theorem aFz {ns:List Node} (hu:iD ns) {a c:Int} (h1:c<ns.length) (h:a<c) (a0:0≤a):At ns a c=At ns a (nd ns c).up:=by
 unfold At;rw[decide_eq_decide,rG hu (by omega) h1]
 simp only[List.mem_append,List.mem_singleton];constructor
 ·rintro (hm|rfl)
  ·exact hm
  ·omega
 ·exact .inl
theorem l9 {ns:List Node} (hu:iD ns) {a c:Int} (h:¬((0≤a∧a<ns.length)∧(0≤c∧c<ns.length))):At ns a c=false:=by
 unfold At;rw[decide_eq_false_iff_not];intro hm;by_cases hc:0≤c∧c<ns.length
 ·exact h ⟨vB hu hm,hc⟩
 ·rw[yH hc] at hm;simp at hm
theorem Vy {ns:List Node} (hu:iD ns) {a c:Int} (h:At ns a c=true):(0≤a∧a<ns.length)∧(0≤c∧c<ns.length):=by
 by_cases hv:(0≤a∧a<ns.length)∧(0≤c∧c<ns.length)
 ·exact hv
 ·rw[l9 hu hv] at h;cases h
theorem L6 {ns:List Node} (hu:iD ns) {a c:Int} (h:At ns a c=true):a≤c:=by
 have hr:=(Vy hu h).2
 unfold At at h;exact (Vw hu _ c rfl hr.1 hr.2 a (of_decide_eq_true h)).2
theorem aOo (a b:List Node) (hn:(a.length:Int)<1000000):aC Tryz.prog 106 [.agg (cX ⟨a⟩),.agg (cX ⟨b⟩)]=some (.v (.bool (decide (a=b)))):=by
 rw[cL Tryz.func106 rfl aJs rfl];by_cases hlen:a.length=b.length
 ·have hq:((a.length:Int) != (b.length:Int))=false:=by simp[hlen]
  simp only[ZZ,seval,hq];refine lV (fun n st=>∃i:Int,st.env 2=.ptr 2 0 0∧st.env 3=.ptr 3 0 0∧st.heap 2 0=some (.cells (cX ⟨a⟩))∧st.heap 3 0=some (.cells (cX ⟨b⟩))∧st.env 5=.v (.int .i64 i)∧0≤i∧i≤a.length∧n=(a.length-i).toNat∧∀j,0≤j→j<i→nd a j=nd b j)
   (fun e st=>(e=.ret∧st.env 4=.v (.bool (decide (a=b))))∨(e=.exit 0∧decide (a=b)=true)) a.length ?step ?start ?rest
  case step =>
   rintro n st ⟨i,h2,h3,uR,SO,h5,i0,i1,Iq,hb⟩
   by_cases bA:i<a.length
   ·have hw:IntKind.i64.wrap (i+1)=i+1:=Gt _ (by omega) (by omega)
    have Qh:i<b.length:=by omega
    by_cases hr:nd a i=nd b i
    ·have hbq:decide (nd a i=nd b i)=true:=by simp[hr]
     apply oN ((a.length-(i+1)).toNat)
     ·simp only[ZZ,seval,h2,h3,uR,SO,h5,bA,Qh,i0,hbq,hw];rfl
     ·exact⟨i+1,by simp only[EV,seval,h2],by simp only[EV,seval,h3],by simp only[EV,seval,uR],by simp only[EV,seval,SO],(by simp only[EV,seval]),by omega,by omega,rfl,fun j j0 j1=>by
      rcases Int.lt_or_eq_of_le (show j≤i by omega) with h|rfl
      ·exact hb j j0 h
      ·exact hr⟩
    ·have hbq:decide (nd a i=nd b i)=false:=by simp[hr]
     have hd:decide (a=b)=false:=by rw[decide_eq_false_iff_not];intro h;exact hr (by rw[h])
     apply oT (.ret)
     ·simp only[ZZ,seval,h2,h3,uR,SO,h5,bA,Qh,i0,hbq];rfl
     ·exact .inl ⟨rfl,by simp only[EV,seval,hd]⟩
   ·apply oT (.exit 0)
    ·simp only[ZZ,seval,h2,h3,uR,SO,h5,bA,i0];rfl
    ·exact .inr ⟨rfl,by
     rw[decide_eq_true_eq];apply List.ext_getElem hlen
     intro j h1 h2;have:=hb j (by omega) (by omega)
     simpa [nd,h1,h2] using this⟩
  case start=>exact⟨0,(by simp only[EV,seval]),(by simp only[EV,seval]),(by simp only[EV,seval]),(by simp only[EV,seval]),(by simp only[EV,seval]),by omega,by omega,by omega,fun j _ _=>by omega⟩
  case rest =>
   rintro e st (⟨rfl,h⟩|⟨rfl,h⟩)
   ·simp only[ZZ,seval];exact bW rfl h (.v _)
   ·simp only[ZZ,seval];exact bW rfl (by simp only[EV,seval,h]) (.v _)
 ·have hq:((a.length:Int) != (b.length:Int))=true:=by simp;omega
  have hd:decide (a=b)=false:=by rw[decide_eq_false_iff_not];intro h;exact hlen (by rw[h])
  simp only[ZZ,seval,hq];exact bW rfl (by simp only[EV,seval,hd]) (.v _)
theorem aOp (a b:List Node) (hn:(a.length:Int)<1000000) (st:St) (d:Option Nat):aL (aC Tryz.prog) 106 [.agg (cX ⟨a⟩),.agg (cX ⟨b⟩)] st d=some { dst:=d,val:=.v (.bool (decide (a=b)))}:=bK (bH (nC _) (nC _)) (aOo a b hn) (.v _)
def oQ (ns:List Node) (i:Int):Nat→List Node × List Int
 | 0=>([],[])
 | k+1 =>
   let p:=oQ ns i k
   if At ns i k=true then (p.1++[{ nd ns k with up:=if (k:Int)=i then -1 else it p.2 (nd ns k).up }],p.2++[(p.1.length:Int)]) else (p.1,p.2++[-1])
theorem Ef (ns:List Node) (i:Int):∀k,(oQ ns i k).2.length=k
 | 0=>rfl
 | k+1=>by
   have:=Ef ns i k
   simp only[oQ];split<;>simp[this]
theorem Qk (ns:List Node) (i:Int):∀k,(oQ ns i k).1.length≤k
 | 0=>Nat.le_refl _
 | k+1=>by
   have:=Qk ns i k
   simp only[oQ];split
   ·simp;exact this
   ·simp;omega
theorem mG {l m:List Int} {j:Int} (h0:0≤j) (h1:j<l.length):it (l++m) j=it l j:=by
 have:j.toNat<l.length:=by omega
 simp[it,List.getElem?_append_left this]
theorem Cm {l:List Int} {x:Int} {j:Int} (h:j=l.length):it (l++[x]) j=x:=by
 subst h;simp[it]
theorem It {l m:List Node} {j:Int} (h0:0≤j) (h1:j<l.length):nd (l++m) j=nd l j:=by
 have:j.toNat<l.length:=by omega
 simp[nd,List.getElem?_append_left this]
theorem DG {l:List Node} {x:Node} {j:Int} (h:j=l.length):nd (l++[x]) j=x:=by
 subst h;simp[nd]
theorem LA {ns:List Node} (hu:iD ns) {i:Int} (i0:0≤i) (i1:i<ns.length):At ns i i=true:=by
 unfold At;rw[decide_eq_true_eq];by_cases h:i=0
 ·subst h;rw[rE (by omega)];simp
 ·rw[rG hu (by omega) i1];simp
theorem LB {ns:List Node} {a:Int} (h:0<ns.length):At ns a 0=decide (a=0):=by
 unfold At;rw[rE h];simp
theorem L7 (ns:List Node) (hu:iD ns) {i:Int} (i0:0≤i) (i1:i<ns.length):(oQ ns i ns.length).1≠[]:=by
 have main:∀k:Nat,i<k→k≤ns.length→(oQ ns i k).1≠[]:=by
  intro k;induction k with
  | zero=>intro h;omega
  | succ k ih =>
    intro h1 h2;by_cases hk:i<k
    ·have:=ih hk (by omega)
     simp only[oQ];split
     ·simp
     ·exact this
    ·have hki:i=k:=by omega
     have:At ns i k=true:=by rw[← hki];exact LA hu i0 i1
     simp[oQ,this]
 exact main ns.length i1 (Nat.le_refl _)
def aJt (st:St) (s1 s2:Nat) (y:AV) (l:List Int):Prop :=
 (y=.v (.slice none 0 0)∧l=[])∨(∃g,y=.own s1 g∧g<st.aP s1∧st.heap s1 g=some (.row 3 1 l.length (aJ l)))∨(∃g,y=.own s2 g∧g<st.aP s2∧st.heap s2 g=some (.row 3 1 l.length (aJ l)))
def aJu (st:St) (s1:Nat) (x:AV) (l:List Node):Prop :=
 (x=.v (.slice none 0 0)∧l=[])∨(∃g,x=.own s1 g∧g<st.aP s1∧st.heap s1 g=some (.row 76 240 l.length (cD l)))
theorem c34 (ns:List Node) (hu:iD ns) (hn:(ns.length:Int)<1000000) (i:Int) (i0:0≤i) (i1:i<ns.length):aC Tryz.prog 34 [.agg (cX ⟨ns⟩),.v (.int .i64 i)] =
 some (.eN [.agg (cX ⟨(oQ ns i ns.length).1⟩),.sl (oQ ns i ns.length).2.length (aJ (oQ ns i ns.length).2),.v (.int .i64 0)]):=by
 have hd:(decide (0≤i) && decide (i<ns.length))=true:=by simp[i0,i1]
 rw[cL Tryz.func34 rfl aOq rfl];simp only[ZZ,seval,RV,hd];refine lV (fun n st=>∃(k:Nat) (x y:AV),st.env 2=.ptr 2 0 0∧st.heap 2 0=some (.cells (cX ⟨ns⟩))∧st.env 4=.ptr 4 0 0∧st.heap 4 0=some (.cells [.v (.slice none 0 0)])∧st.env 7=.ptr 7 0 0∧st.heap 7 0=some (.cells [x]) ∧
  st.env 1=.v (.int .i64 i)∧st.env 9=.v (.int .i64 k)∧k≤ns.length∧n=ns.length-k∧st.env 8=y∧aJt st 30 51 y (oQ ns i k).2∧aJu st 56 x (oQ ns i k).1)
  (fun e st=>e=.exit 0∧∃(x y:AV),st.env 4=.ptr 4 0 0∧st.heap 4 0=some (.cells [.v (.slice none 0 0)])∧st.env 7=.ptr 7 0 0∧st.heap 7 0=some (.cells [x])∧st.env 8=y∧aJt st 30 51 y (oQ ns i ns.length).2∧aJu st 56 x (oQ ns i ns.length).1) ns.length ?step ?start ?rest
 case step =>
  rintro n st ⟨k,x,y,h2,uR,h4,Eg,h7,Gc,h1,h9,hk,Iq,h8,hy,hx⟩
  have hlen:=Ef ns i k
  have hlen2:=Qk ns i k
  have Qd:((oQ ns i k).2.length:Int)<1000000:=by omega
  have n5:((oQ ns i k).1.length:Int)<1000000:=by omega
  by_cases bA:(k:Int)<ns.length
  ·have hw:IntKind.i64.wrap ((k:Int)+1)=((k+1:Nat):Int):=by rw[Gt _ (by omega) (by omega)];simp
   have k0:(0:Int)≤k:=by omega
   by_cases Nd:At ns i k=true
   ·have hs:oQ ns i (k+1)=((oQ ns i k).1++[{ nd ns k with up:=if (k:Int)=i then -1 else it (oQ ns i k).2 (nd ns k).up }],(oQ ns i k).2++[((oQ ns i k).1.length:Int)]):=by simp only[oQ,Nd,if_true]
    have upb:(k:Int)≠i→0≤(nd ns k).up∧(nd ns k).up<(oQ ns i k).2.length:=fun gW=>by
     rcases Nat.eq_zero_or_pos k with h0|h0
     ·subst h0;rw[show ((0:Nat):Int)=0 from rfl,LB (by omega)] at Nd
      simp at Nd
      omega
     ·have:=hu k (by omega) bA
      rw[hlen];omega
    by_cases hki:(k:Int)=i
    ·have hq:((k:Int) == i)=true:=by simp[hki]
     rw[if_pos hki] at hs;rcases hy with ⟨rfl,hy⟩|⟨g,rfl,hg,hy⟩|⟨g,rfl,hg,hy⟩<;>rcases hx with ⟨rfl,hx⟩|⟨g',rfl,n8,hx⟩
     ·rw[hy,hx] at hs;apply oN ((ns.length-(k+1)))
      ·simp only[ZZ,seval,h2,uR,h4,Eg,h7,Gc,h1,h9,h8,bA,k0,Nf ns hu hn,Nd,hw,hq];rfl
      ·exact⟨k+1,_,_,(by simp only[EV,seval,h2]),(by simp only[EV,seval,uR]),(by simp only[EV,seval,h4]),(by simp only[EV,seval,Eg]),(by simp only[EV,seval,h7]),(by simp only[EV,seval];rfl),(by simp only[EV,seval,h1]),(by simp only[EV,seval]),by omega,by omega,(by simp only[EV,seval];rfl),(by rw[hs];(try simp only[List.nil_append]);exact .inr (.inr ⟨_,rfl,(by simp only[EV,seval]<;>omega),(by simp only[EV,seval]<;>rfl)⟩)),(by rw[hs];(try simp only[List.nil_append]);exact .inr ⟨_,rfl,(by simp only[EV,seval]<;>omega),(by simp only[EV,seval]<;>rfl)⟩)⟩
     ·rw[hy] at hs;apply oN ((ns.length-(k+1)))
      ·simp only[ZZ,seval,h2,uR,h4,Eg,h7,Gc,h1,h9,h8,bA,k0,Nf ns hu hn,Nd,hw,hq,hx,n5];rfl
      ·exact⟨k+1,_,_,(by simp only[EV,seval,h2]),(by simp only[EV,seval,uR]),(by simp only[EV,seval,h4]),(by simp only[EV,seval,Eg]),(by simp only[EV,seval,h7]),(by simp only[EV,seval];rfl),(by simp only[EV,seval,h1]),(by simp only[EV,seval]),by omega,by omega,(by simp only[EV,seval];rfl),(by rw[hs];(try simp only[List.nil_append]);exact .inr (.inr ⟨_,rfl,(by simp only[EV,seval]<;>omega),(by simp only[EV,seval]<;>rfl)⟩)),(by rw[hs];(try simp only[List.nil_append]);exact .inr ⟨_,rfl,(by simp only[EV,seval]<;>omega),(by simp only[EV,seval]<;>rfl)⟩)⟩
     ·rw[hx] at hs;apply oN ((ns.length-(k+1)))
      ·simp only[ZZ,seval,h2,uR,h4,Eg,h7,Gc,h1,h9,h8,bA,k0,Nf ns hu hn,Nd,hw,hq,hy,Qd];rfl
      ·exact⟨k+1,_,_,(by simp only[EV,seval,h2]),(by simp only[EV,seval,uR]),(by simp only[EV,seval,h4]),(by simp only[EV,seval,Eg]),(by simp only[EV,seval,h7]),(by simp only[EV,seval];rfl),(by simp only[EV,seval,h1]),(by simp only[EV,seval]),by omega,by omega,(by simp only[EV,seval];rfl),(by rw[hs];(try simp only[List.nil_append]);exact .inr (.inr ⟨_,rfl,(by simp only[EV,seval]<;>omega),(by simp only[EV,seval]<;>rfl)⟩)),(by rw[hs];(try simp only[List.nil_append]);exact .inr ⟨_,rfl,(by simp only[EV,seval]<;>omega),(by simp only[EV,seval]<;>rfl)⟩)⟩
     ·apply oN ((ns.length-(k+1)))
      ·simp only[ZZ,seval,h2,uR,h4,Eg,h7,Gc,h1,h9,h8,bA,k0,Nf ns hu hn,Nd,hw,hq,hy,Qd,hx,n5];rfl
      ·exact⟨k+1,_,_,(by simp only[EV,seval,h2]),(by simp only[EV,seval,uR]),(by simp only[EV,seval,h4]),(by simp only[EV,seval,Eg]),(by simp only[EV,seval,h7]),(by simp only[EV,seval];rfl),(by simp only[EV,seval,h1]),(by simp only[EV,seval]),by omega,by omega,(by simp only[EV,seval];rfl),(by rw[hs];(try simp only[List.nil_append]);exact .inr (.inr ⟨_,rfl,(by simp only[EV,seval]<;>omega),(by simp only[EV,seval]<;>rfl)⟩)),(by rw[hs];(try simp only[List.nil_append]);exact .inr ⟨_,rfl,(by simp only[EV,seval]<;>omega),(by simp only[EV,seval]<;>rfl)⟩)⟩
     ·rw[hx] at hs;apply oN ((ns.length-(k+1)))
      ·simp only[ZZ,seval,h2,uR,h4,Eg,h7,Gc,h1,h9,h8,bA,k0,Nf ns hu hn,Nd,hw,hq,hy,Qd];rfl
      ·exact⟨k+1,_,_,(by simp only[EV,seval,h2]),(by simp only[EV,seval,uR]),(by simp only[EV,seval,h4]),(by simp only[EV,seval,Eg]),(by simp only[EV,seval,h7]),(by simp only[EV,seval];rfl),(by simp only[EV,seval,h1]),(by simp only[EV,seval]),by omega,by omega,(by simp only[EV,seval];rfl),(by rw[hs];(try simp only[List.nil_append]);exact .inr (.inr ⟨_,rfl,(by simp only[EV,seval]<;>omega),(by simp only[EV,seval]<;>rfl)⟩)),(by rw[hs];(try simp only[List.nil_append]);exact .inr ⟨_,rfl,(by simp only[EV,seval]<;>omega),(by simp only[EV,seval]<;>rfl)⟩)⟩
     ·apply oN ((ns.length-(k+1)))
      ·simp only[ZZ,seval,h2,uR,h4,Eg,h7,Gc,h1,h9,h8,bA,k0,Nf ns hu hn,Nd,hw,hq,hy,Qd,hx,n5];rfl
      ·exact⟨k+1,_,_,(by simp only[EV,seval,h2]),(by simp only[EV,seval,uR]),(by simp only[EV,seval,h4]),(by simp only[EV,seval,Eg]),(by simp only[EV,seval,h7]),(by simp only[EV,seval];rfl),(by simp only[EV,seval,h1]),(by simp only[EV,seval]),by omega,by omega,(by simp only[EV,seval];rfl),(by rw[hs];(try simp only[List.nil_append]);exact .inr (.inr ⟨_,rfl,(by simp only[EV,seval]<;>omega),(by simp only[EV,seval]<;>rfl)⟩)),(by rw[hs];(try simp only[List.nil_append]);exact .inr ⟨_,rfl,(by simp only[EV,seval]<;>omega),(by simp only[EV,seval]<;>rfl)⟩)⟩
    ·have hq:((k:Int) == i)=false:=by simp[hki]
     obtain⟨u0,u1⟩:=upb hki
     rw[if_neg hki] at hs;rcases hy with ⟨rfl,hy⟩|⟨g,rfl,hg,hy⟩|⟨g,rfl,hg,hy⟩<;>rcases hx with ⟨rfl,hx⟩|⟨g',rfl,n8,hx⟩
     ·exfalso;rw[hy] at u1;simp at u1;omega
     ·exfalso;rw[hy] at u1;simp at u1;omega
     ·rw[hx] at hs;apply oN ((ns.length-(k+1)))
      ·simp only[ZZ,seval,h2,uR,h4,Eg,h7,Gc,h1,h9,h8,bA,k0,Nf ns hu hn,Nd,hw,hq,u0,u1,hy,Qd];rfl
      ·exact⟨k+1,_,_,(by simp only[EV,seval,h2]),(by simp only[EV,seval,uR]),(by simp only[EV,seval,h4]),(by simp only[EV,seval,Eg]),(by simp only[EV,seval,h7]),(by simp only[EV,seval];rfl),(by simp only[EV,seval,h1]),(by simp only[EV,seval]),by omega,by omega,(by simp only[EV,seval];rfl),(by rw[hs];(try simp only[List.nil_append]);exact .inr (.inr ⟨_,rfl,(by simp only[EV,seval]<;>omega),(by simp only[EV,seval]<;>rfl)⟩)),(by rw[hs];(try simp only[List.nil_append]);exact .inr ⟨_,rfl,(by simp only[EV,seval]<;>omega),(by simp only[EV,seval]<;>rfl)⟩)⟩
     ·apply oN ((ns.length-(k+1)))
      ·simp only[ZZ,seval,h2,uR,h4,Eg,h7,Gc,h1,h9,h8,bA,k0,Nf ns hu hn,Nd,hw,hq,u0,u1,hy,Qd,hx,n5];rfl
      ·exact⟨k+1,_,_,(by simp only[EV,seval,h2]),(by simp only[EV,seval,uR]),(by simp only[EV,seval,h4]),(by simp only[EV,seval,Eg]),(by simp only[EV,seval,h7]),(by simp only[EV,seval];rfl),(by simp only[EV,seval,h1]),(by simp only[EV,seval]),by omega,by omega,(by simp only[EV,seval];rfl),(by rw[hs];(try simp only[List.nil_append]);exact .inr (.inr ⟨_,rfl,(by simp only[EV,seval]<;>omega),(by simp only[EV,seval]<;>rfl)⟩)),(by rw[hs];(try simp only[List.nil_append]);exact .inr ⟨_,rfl,(by simp only[EV,seval]<;>omega),(by simp only[EV,seval]<;>rfl)⟩)⟩
     ·rw[hx] at hs;apply oN ((ns.length-(k+1)))
      ·simp only[ZZ,seval,h2,uR,h4,Eg,h7,Gc,h1,h9,h8,bA,k0,Nf ns hu hn,Nd,hw,hq,u0,u1,hy,Qd];rfl
      ·exact⟨k+1,_,_,(by simp only[EV,seval,h2]),(by simp only[EV,seval,uR]),(by simp only[EV,seval,h4]),(by simp only[EV,seval,Eg]),(by simp only[EV,seval,h7]),(by simp only[EV,seval];rfl),(by simp only[EV,seval,h1]),(by simp only[EV,seval]),by omega,by omega,(by simp only[EV,seval];rfl),(by rw[hs];(try simp only[List.nil_append]);exact .inr (.inr ⟨_,rfl,(by simp only[EV,seval]<;>omega),(by simp only[EV,seval]<;>rfl)⟩)),(by rw[hs];(try simp only[List.nil_append]);exact .inr ⟨_,rfl,(by simp only[EV,seval]<;>omega),(by simp only[EV,seval]<;>rfl)⟩)⟩
     ·apply oN ((ns.length-(k+1)))
      ·simp only[ZZ,seval,h2,uR,h4,Eg,h7,Gc,h1,h9,h8,bA,k0,Nf ns hu hn,Nd,hw,hq,u0,u1,hy,Qd,hx,n5];rfl
      ·exact⟨k+1,_,_,(by simp only[EV,seval,h2]),(by simp only[EV,seval,uR]),(by simp only[EV,seval,h4]),(by simp only[EV,seval,Eg]),(by simp only[EV,seval,h7]),(by simp only[EV,seval];rfl),(by simp only[EV,seval,h1]),(by simp only[EV,seval]),by omega,by omega,(by simp only[EV,seval];rfl),(by rw[hs];(try simp only[List.nil_append]);exact .inr (.inr ⟨_,rfl,(by simp only[EV,seval]<;>omega),(by simp only[EV,seval]<;>rfl)⟩)),(by rw[hs];(try simp only[List.nil_append]);exact .inr ⟨_,rfl,(by simp only[EV,seval]<;>omega),(by simp only[EV,seval]<;>rfl)⟩)⟩
   ·have Vz:At ns i k=false:=by simpa using Nd
    have hs:oQ ns i (k+1)=((oQ ns i k).1,(oQ ns i k).2++[-1]):=by simp[oQ,Vz]
    rcases hy with ⟨rfl,hy⟩|⟨g,rfl,hg,hy⟩|⟨g,rfl,hg,hy⟩<;>rcases hx with ⟨rfl,hx⟩|⟨g',rfl,n8,hx⟩
    ·rw[hy,hx] at hs;apply oN ((ns.length-(k+1)))
     ·simp only[ZZ,seval,h2,uR,h4,Eg,h7,Gc,h1,h9,h8,bA,k0,Nf ns hu hn,Vz,hw];rfl
     ·exact⟨k+1,_,_,(by simp only[EV,seval,h2]),(by simp only[EV,seval,uR]),(by simp only[EV,seval,h4]),(by simp only[EV,seval,Eg]),(by simp only[EV,seval,h7]),(by simp only[EV,seval,Gc];rfl),(by simp only[EV,seval,h1]),(by simp only[EV,seval]),by omega,by omega,(by simp only[EV,seval];rfl),(by rw[hs];(try simp only[List.nil_append]);exact .inr (.inl ⟨_,rfl,(by simp only[EV,seval]<;>omega),(by simp only[EV,seval]<;>rfl)⟩)),(by rw[hs];exact .inl ⟨rfl,rfl⟩)⟩
    ·rw[hy] at hs;apply oN ((ns.length-(k+1)))
     ·simp only[ZZ,seval,h2,uR,h4,Eg,h7,Gc,h1,h9,h8,bA,k0,Nf ns hu hn,Vz,hw,hx,n5];rfl
     ·exact⟨k+1,_,_,(by simp only[EV,seval,h2]),(by simp only[EV,seval,uR]),(by simp only[EV,seval,h4]),(by simp only[EV,seval,Eg]),(by simp only[EV,seval,h7]),(by simp only[EV,seval,Gc];rfl),(by simp only[EV,seval,h1]),(by simp only[EV,seval]),by omega,by omega,(by simp only[EV,seval];rfl),(by rw[hs];(try simp only[List.nil_append]);exact .inr (.inl ⟨_,rfl,(by simp only[EV,seval]<;>omega),(by simp only[EV,seval]<;>rfl)⟩)),(by rw[hs];exact .inr ⟨_,rfl,(by simp only[EV,seval]<;>omega),(by simp only[EV,seval,hx])⟩)⟩
    ·rw[hx] at hs;apply oN ((ns.length-(k+1)))
     ·simp only[ZZ,seval,h2,uR,h4,Eg,h7,Gc,h1,h9,h8,bA,k0,Nf ns hu hn,Vz,hw,hy,Qd];rfl
     ·exact⟨k+1,_,_,(by simp only[EV,seval,h2]),(by simp only[EV,seval,uR]),(by simp only[EV,seval,h4]),(by simp only[EV,seval,Eg]),(by simp only[EV,seval,h7]),(by simp only[EV,seval,Gc];rfl),(by simp only[EV,seval,h1]),(by simp only[EV,seval]),by omega,by omega,(by simp only[EV,seval];rfl),(by rw[hs];(try simp only[List.nil_append]);exact .inr (.inl ⟨_,rfl,(by simp only[EV,seval]<;>omega),(by simp only[EV,seval]<;>rfl)⟩)),(by rw[hs];exact .inl ⟨rfl,rfl⟩)⟩
    ·apply oN ((ns.length-(k+1)))
     ·simp only[ZZ,seval,h2,uR,h4,Eg,h7,Gc,h1,h9,h8,bA,k0,Nf ns hu hn,Vz,hw,hy,Qd,hx,n5];rfl
     ·exact⟨k+1,_,_,(by simp only[EV,seval,h2]),(by simp only[EV,seval,uR]),(by simp only[EV,seval,h4]),(by simp only[EV,seval,Eg]),(by simp only[EV,seval,h7]),(by simp only[EV,seval,Gc];rfl),(by simp only[EV,seval,h1]),(by simp only[EV,seval]),by omega,by omega,(by simp only[EV,seval];rfl),(by rw[hs];(try simp only[List.nil_append]);exact .inr (.inl ⟨_,rfl,(by simp only[EV,seval]<;>omega),(by simp only[EV,seval]<;>rfl)⟩)),(by rw[hs];exact .inr ⟨_,rfl,(by simp only[EV,seval]<;>omega),(by simp only[EV,seval,hx])⟩)⟩
    ·rw[hx] at hs;apply oN ((ns.length-(k+1)))
     ·simp only[ZZ,seval,h2,uR,h4,Eg,h7,Gc,h1,h9,h8,bA,k0,Nf ns hu hn,Vz,hw,hy,Qd];rfl
     ·exact⟨k+1,_,_,(by simp only[EV,seval,h2]),(by simp only[EV,seval,uR]),(by simp only[EV,seval,h4]),(by simp only[EV,seval,Eg]),(by simp only[EV,seval,h7]),(by simp only[EV,seval,Gc];rfl),(by simp only[EV,seval,h1]),(by simp only[EV,seval]),by omega,by omega,(by simp only[EV,seval];rfl),(by rw[hs];(try simp only[List.nil_append]);exact .inr (.inl ⟨_,rfl,(by simp only[EV,seval]<;>omega),(by simp only[EV,seval]<;>rfl)⟩)),(by rw[hs];exact .inl ⟨rfl,rfl⟩)⟩
    ·apply oN ((ns.length-(k+1)))
     ·simp only[ZZ,seval,h2,uR,h4,Eg,h7,Gc,h1,h9,h8,bA,k0,Nf ns hu hn,Vz,hw,hy,Qd,hx,n5];rfl
     ·exact⟨k+1,_,_,(by simp only[EV,seval,h2]),(by simp only[EV,seval,uR]),(by simp only[EV,seval,h4]),(by simp only[EV,seval,Eg]),(by simp only[EV,seval,h7]),(by simp only[EV,seval,Gc];rfl),(by simp only[EV,seval,h1]),(by simp only[EV,seval]),by omega,by omega,(by simp only[EV,seval];rfl),(by rw[hs];(try simp only[List.nil_append]);exact .inr (.inl ⟨_,rfl,(by simp only[EV,seval]<;>omega),(by simp only[EV,seval]<;>rfl)⟩)),(by rw[hs];exact .inr ⟨_,rfl,(by simp only[EV,seval]<;>omega),(by simp only[EV,seval,hx])⟩)⟩
  ·have Eh:k=ns.length:=by omega
   subst Eh;apply oT (.exit 0)
   ·simp only[ZZ,seval,h2,uR,h4,Eg,h7,Gc,h1,h9,h8,bA];rfl
   ·exact⟨rfl,x,y,(by simp only[EV,seval,h4]),(by simp only[EV,seval,Eg]),(by simp only[EV,seval,h7]),(by simp only[EV,seval,Gc]),(by simp only[EV,seval,h8]),hy,hx⟩
 case start=>exact⟨0,_,_,(by simp only[EV,seval]),(by simp only[EV,seval]),(by simp only[EV,seval]),(by simp only[EV,seval]),(by simp only[EV,seval]),(by simp only[EV,seval]<;>rfl),(by simp only[EV,seval]),(by simp only[EV,seval]<;>rfl),by omega,by omega,(by simp only[EV,seval]<;>rfl),.inl ⟨rfl,rfl⟩,.inl ⟨rfl,rfl⟩⟩
 case rest =>
  rintro e st ⟨rfl,x,y,h4,Eg,h7,Gc,h8,hy,hx⟩
  have hlen:=Ef ns i ns.length
  have gW:=L7 ns hu i0 i1
  rcases hy with ⟨rfl,hy⟩|⟨g,rfl,hg,hy⟩|⟨g,rfl,hg,hy⟩<;>rcases hx with ⟨rfl,hx⟩|⟨g',rfl,n8,hx⟩
  ·exact absurd hx gW
  ·rw[hy] at hlen;simp at hlen;omega
  ·exact absurd hx gW
  ·simp only[ZZ,seval,h4,Eg,h7,Gc,h8];exact gP rfl (by simp only[bV,ZZ,seval,h4,Eg,h7,Gc,h8];rfl) (by simp only[bV,EV,seval]<;>rfl) (by simp only[bV,EV,seval]<;>rfl) (by simp only[EV,seval,hx,Option.map_some]<;>rfl) (by simp only[EV,seval,hy]) (by simp only[EV,seval])
  ·exact absurd hx gW
  ·simp only[ZZ,seval,h4,Eg,h7,Gc,h8];exact gP rfl (by simp only[bV,ZZ,seval,h4,Eg,h7,Gc,h8];rfl) (by simp only[bV,EV,seval]<;>rfl) (by simp only[bV,EV,seval]<;>rfl) (by simp only[EV,seval,hx,Option.map_some]<;>rfl) (by simp only[EV,seval,hy]) (by simp only[EV,seval])
theorem o0 {P:Program} {b:Code} {st:St} {k:Ex × St→Option (Ex × St)} {R:Ex→St→Prop} (Inv:Nat→St→Prop) (Q:Ex→St→Prop) (n:Nat)
 (step:∀n st,Inv n st→∃e st',yX P b st=some (e,st')∧((e=.normal∧∃m,m<n∧Inv m st')∨(e≠.normal∧Q e st')))
 (start:Inv n st) (rest:∀e st',Q e st'→∃e' L9,k (e,st')=some (e',L9)∧R e' L9):∃e' L9,cN (yX P (.loop b) st) k=some (e',L9)∧R e' L9:=by
 obtain⟨e,s1,h1,h2,h3⟩:=Ql Inv Q step n st start
 rw[h1];exact rest e s1 h3
theorem M0 {x:Option (Ex × St)} {st':St} {n:Nat} {Inv:Nat→St→Prop} {Q:Ex→St→Prop} (h:x=some (.normal,st')) (m:Nat) (hm:m<n) (hi:Inv m st') :
 ∃e st',x=some (e,st')∧((e=.normal∧∃m,m<n∧Inv m st')∨(e≠.normal∧Q e st')):=⟨_,_,h,.inl ⟨rfl,m,hm,hi⟩⟩
theorem o6 {call:Nat→List AV→Option AV} {ops:Array Oper} {st:St} {T:Nat} {pos:String} {eP:Array Edge} (d:Nat) (x y:Operand) {a b:Int} (h1:st.ev x=.v (.int .i64 a)) (h2:st.ev y=.v (.int .i64 b)):cF Tryz.prog call ops ⟨some d,.buildSlice 22 2 #[(0,x),(1,y)],T,pos,eP,none⟩ st =
 some ((st.new d (.row 3 1 2 (aJ [a,b]))).put (some d) (.own d (st.aP d))):=by
 rw[lB];simp[Kw,ze3,cN,h1,h2,AV.jD,Value.oneCell',gT,AV.cells,List.range,List.range.loop,aJ,pV]
theorem Ei {call:Nat→List AV→Option AV} {ops:Array Oper} {st:St} {T:Nat} {pos:String} {eP:Array Edge} (d:Nat) (x y:Operand):cF Tryz.prog call ops ⟨some d,.buildSlice 22 2 #[(0,x),(1,y)],T,pos,eP,none⟩ st =
 Kx (st.ev x) (fun a=>Kx (st.ev y) (fun b=>some ((st.new d (.row 3 1 2 (aJ [a,b]))).put (some d) (.own d (st.aP d)))) (cF Tryz.prog call ops ⟨some d,.buildSlice 22 2 #[(0,x),(1,y)],T,pos,eP,none⟩ st))
  (cF Tryz.prog call ops ⟨some d,.buildSlice 22 2 #[(0,x),(1,y)],T,pos,eP,none⟩ st):=by
 unfold Kx;split
 ·rename_i a h1;try dsimp only
  split
  ·rename_i b h2;exact o6 d x y h1 h2
  ·rfl
 ·rfl
def Gd (ns:List Node) (i:Int):Nat→List Int
 | 0=>[]
 | k+1=>if At ns i k=true then Gd ns i k++[(k:Int)] else Gd ns i k
theorem Uv (ns:List Node) (i:Int):∀k,(Gd ns i k).length≤k
 | 0=>Nat.le_refl _
 | k+1=>by
   have:=Uv ns i k
   simp only[Gd];split
   ·simp;omega
   ·omega
theorem SP {ns:List Node} (hu:iD ns) {i:Int} (i0:0≤i) (i1:i<ns.length):∀k:Nat,i<k→Gd ns i k≠[]
 | 0,h=>by omega
 | k+1,h=>by
   simp only[Gd];by_cases hk:i=k
   ·rw[if_pos (by unfold At;rw[← hk];exact decide_eq_true (yG hu i0 i1))];simp
   ·have:=SP hu i0 i1 k (by omega)
    split
    ·simp
    ·exact this
theorem XU (ns:List Node) (i x:Int):∀k:Nat,x∈Gd ns i k↔(0≤x∧x<k)∧At ns i x=true
 | 0=>by simp[Gd];intro h h';omega
 | k+1=>by
   have ih:=XU ns i x k
   simp only[Gd];split
   ·rename_i h;rw[List.mem_append,ih,List.mem_singleton];constructor
    ·rintro (⟨h1,h2⟩|rfl)
     ·exact⟨by omega,h2⟩
     ·exact⟨by omega,h⟩
    ·rintro⟨h1,h2⟩
     by_cases hk:x=k
     ·exact .inr hk
     ·exact .inl ⟨by omega,h2⟩
   ·rename_i h;rw[ih];constructor
    ·rintro⟨h1,h2⟩;exact⟨by omega,h2⟩
    ·rintro⟨h1,h2⟩
     by_cases hk:x=k
     ·subst hk;exact absurd h2 h
     ·exact⟨by omega,h2⟩
def M1 (ns:List Node) (i:Int):AV:=.eN [.agg (cX ⟨(oQ ns i ns.length).1⟩),.sl (oQ ns i ns.length).2.length (aJ (oQ ns i ns.length).2),.v (.int .i64 0)]
theorem o7 (ns:List Node) (i:Int):Flat (M1 ns i):=.eN _ (nD (nC _) (Qi _) (.v _))
theorem k34 (ns:List Node) (hu:iD ns) (hn:(ns.length:Int)<1000000) (i:Int) (h:0≤i∧i<ns.length) (st:St) (d:Option Nat):aL (aC Tryz.prog) 34 [.agg (cX ⟨ns⟩),.v (.int .i64 i)] st d=some { dst:=d,val:=M1 ns i }:=bK (bH (nC _) (.v _)) (c34 ns hu hn i h.1 h.2) (o7 ns i)
theorem SQ {ns:List Node} (hu:iD ns) {i:Int}:∀k:Nat,k≤ns.length→∀a:Int,0≤a→a<k→At ns i a=true →
 0≤it (oQ ns i k).2 a∧it (oQ ns i k).2 a<(oQ ns i k).1.length∧nd (oQ ns i k).1 (it (oQ ns i k).2 a)={ nd ns a with up:=if a=i then -1 else it (oQ ns i k).2 (nd ns a).up }
 | 0,_,a,a0,a1,_=>by omega
 | k+1,hk,a,a0,a1,ha=>by
   have hl:=Ef ns i k
   have Wa:a≠i→0≤(nd ns a).up∧(nd ns a).up<a:=fun h=>by
    by_cases ha0:a=0
    ·subst ha0;rw[LB (by omega)] at ha;simp at ha;omega
    ·exact hu a (by omega) (by omega)
   by_cases hak:a<k
   ·obtain⟨h1,h2,h3⟩:=SQ hu k (by omega) a a0 hak ha
    simp only[oQ];split
    ·simp only
     rw[mG a0 (by omega),It h1 h2,h3]
     refine⟨h1,by simp;omega, ?_⟩
     by_cases DH:a=i
     ·rw[if_pos DH,if_pos DH]
     ·obtain⟨u0,u1⟩:=Wa DH
      rw[if_neg DH,if_neg DH,mG u0 (by omega)]
    ·simp only
     rw[mG a0 (by omega),h3]
     refine⟨h1,h2, ?_⟩
     by_cases DH:a=i
     ·rw[if_pos DH,if_pos DH]
     ·obtain⟨u0,u1⟩:=Wa DH
      rw[if_neg DH,if_neg DH,mG u0 (by omega)]
   ·have hak:a=k:=by omega
    subst hak;simp only[oQ,ha,if_true];rw[Cm (by omega),DG rfl]
    refine⟨by omega,by simp<;>omega, ?_⟩
    by_cases DH:(k:Int)=i
    ·rw[if_pos DH,if_pos DH]
    ·obtain⟨u0,u1⟩:=Wa DH
     rw[if_neg DH,if_neg DH,mG u0 (by omega)]
theorem Ky (ns:List Node) (i:Int):∀(d k:Nat) (a:Int),0≤a→a<k→it (oQ ns i (k+d)).2 a=it (oQ ns i k).2 a
 | 0,k,a,_,_=>rfl
 | d+1,k,a,a0,a1=>by
   have ih:=Ky ns i d k a a0 a1
   have hl:=Ef ns i (k+d)
   rw[← ih,← Nat.add_assoc];simp only[oQ];split
   ·simp only;rw[mG a0 (by omega)]
   ·simp only;rw[mG a0 (by omega)]
theorem aBF {ns:List Node} {i:Int} {n:Nat} {k:Nat} (hk:k<n) (ha:At ns i k=true):it (oQ ns i n).2 k=(oQ ns i k).1.length:=by
 obtain⟨d,rfl⟩:∃d,n=k+1+d:=⟨n-(k+1),by omega⟩
 rw[Ky ns i d (k+1) k (by omega) (by omega)]
 have hl:=Ef ns i k
 simp only[oQ,ha,if_true];rw[Cm (by omega)]
theorem M3 {ns:List Node} (hu:iD ns) {i:Int} {n:Nat} (hn:n≤ns.length) {a b:Int} (a0:0≤a) (hab:a<b) (hb:b<n) (ha:At ns i a=true) (oC:At ns i b=true):it (oQ ns i n).2 a<it (oQ ns i n).2 b:=by
 obtain⟨k,rfl⟩:∃k:Nat,b=k:=⟨b.toNat,by omega⟩
 rw[aBF (by omega) oC]
 obtain⟨d,rfl⟩:∃d,n=k+d:=⟨n-k,by omega⟩
 rw[Ky ns i d k a a0 hab];exact (SQ hu k (by omega) a a0 hab ha).2.1
theorem Ng (ns:List Node) (i:Int):∀(k:Nat) (m:Int),0≤m→m<(oQ ns i k).1.length→∃a:Int,0≤a∧a<k∧At ns i a=true∧it (oQ ns i k).2 a=m
 | 0,m,m0,m1=>by simp[oQ] at m1;omega
 | k+1,m,m0,m1=>by
   have hl:=Ef ns i k
   simp only[oQ] at m1 ⊢;split at m1
   ·rename_i h;rw[if_pos h];simp only at m1 ⊢
    by_cases hm:m<(oQ ns i k).1.length
    ·obtain⟨a,a0,a1,ha,he⟩:=Ng ns i k m m0 hm
     exact⟨a,a0,by omega,ha,by rw[mG a0 (by omega)];exact he⟩
    ·simp at m1
     exact⟨k,by omega,by omega,h,by rw[Cm (by omega)];omega⟩
   ·rename_i h;rw[if_neg h];simp only at m1 ⊢
    obtain⟨a,a0,a1,ha,he⟩:=Ng ns i k m m0 m1
    exact⟨a,a0,by omega,ha,by rw[mG a0 (by omega)];exact he⟩
end Go.Ab.Tryz
section
namespace Go.Ab.Tryz
open Classical Go.Proofs Go.Ab
variable {ns:List Node} {i:Int}
theorem LC (hu:iD ns) {a:Int} (ha:At ns i a=true):0≤it (oQ ns i ns.length).2 a∧it (oQ ns i ns.length).2 a<(oQ ns i ns.length).1.length∧nd (oQ ns i ns.length).1 (it (oQ ns i ns.length).2 a)={ nd ns a with up:=if a=i then -1 else it (oQ ns i ns.length).2 (nd ns a).up }:=by
 have h:=(Vy hu ha).2
 exact SQ hu ns.length (Nat.le_refl _) a h.1 h.2 ha
theorem XV (hu:iD ns) {a b:Int} (hab:a<b) (ha:At ns i a=true) (hb:At ns i b=true):it (oQ ns i ns.length).2 a<it (oQ ns i ns.length).2 b :=
 M3 hu (Nat.le_refl _) (Vy hu ha).2.1 hab (Vy hu hb).2.2 ha hb
theorem XW (hu:iD ns) (hi:At ns i i=true):it (oQ ns i ns.length).2 i=0:=by
 obtain⟨h1,h2,_⟩:=LC hu hi
 obtain⟨a,a0,a1,ha,he⟩:=Ng ns i ns.length 0 (Int.le_refl 0) (by omega)
 have:=L6 hu ha
 by_cases h:i=a
 ·rw[h] at he ⊢;rw[← h] at he ⊢;exact he
 ·have:=XV hu (show i<a by omega) hi ha
  omega
theorem aJv (hu:iD ns) {a:Int} (ha:At ns i a=true) (h:a≠i):0<a∧(0≤(nd ns a).up∧(nd ns a).up<a)∧At ns i (nd ns a).up=true:=by
 obtain⟨⟨i0,_⟩,a0,a1⟩:=Vy hu ha
 have:=L6 hu ha
 have hp:0<a:=by omega
 refine⟨hp,hu a hp a1, ?_⟩
 rw[← aFz hu a1 (by omega) i0];exact ha
theorem aBG (hu:iD ns) (hi:At ns i i=true):iD (oQ ns i ns.length).1:=by
 intro m m0 m1;obtain⟨a,a0,a1,ha,rfl⟩:=Ng ns i ns.length m (by omega) m1
 have DH:a≠i:=by rintro rfl;rw[XW hu hi] at m0;omega
 obtain⟨_,⟨u0,u1⟩,Wa⟩:=aJv hu ha DH
 rw[(LC hu ha).2.2];simp only[if_neg DH];exact⟨(LC hu Wa).1,XV hu u1 Wa ha⟩
end Go.Ab.Tryz
end
namespace Go.Ab.Tryz
open Classical Go.Proofs Go.Ab
structure Vld (ns:List Node):Prop where
 o8:0<ns.length
 aUW:ns.length≤4096
 LD:(nd ns 0).up=-1
 up:iD ns
 par:∀i:Int,0<i→i<ns.length→(nd ns i).block.parent=(nd ns (nd ns i).up).block.root
 slot:∀i:Int,0<i→i<ns.length→(nd ns (nd ns i).up).block.slot<(nd ns i).block.slot
 roots:∀i j:Int,0≤i→i<j→j<ns.length→(nd ns i).block.root≠(nd ns j).block.root
 st:∀i:Int,0≤i→i<ns.length→SN (nd ns i).status=true
end Go.Ab.Tryz
namespace Go.Ab.Tryz
open Classical Go.Proofs Go.Ab
end Go.Ab.Tryz
namespace Go.Ab.Tryz
open Classical Go.Proofs Go.Ab
noncomputable def Nh (st:St) (e:Option nM) (o:Nat):Option AV :=
 match e with
 | some (.cells cs)=>(cC (cs.map (qA st))).map fun ds=>.ip ds o
 | _=>none
theorem Cn (st:St) (f s g o:Nat):fK st (.uO f [.ptr s g o])=(Nh st (st.heap s g) o).map fun y=>.uO f [y]:=by
 have hn:¬Flat (.uO f [.ptr s g o]):=by intro h;cases h with|uO _ _ h=>exact xT s g o (h _ (by simp))
 unfold fK Nh;rw[if_neg hn];simp only[List.map_cons,List.map_nil];unfold cA;rw[if_neg (xT s g o)];simp only
 cases st.heap s g with
 | none=>rfl
 | some e=>cases e with
   | cells cs =>
     simp only
     cases cC (cs.map (qA st))<;>rfl
   | _=>rfl
theorem Kz (st:St) {cs:List AV} (h:∀c∈cs,Flat c) (o:Nat):Nh st (some (.cells cs)) o=some (.ip cs o):=by
 unfold Nh;simp only[Sr h,Option.map_some]
theorem SR (st:St) (r:cK) (o:Nat):Nh st (some (.cells (aX r))) o=some (.ip (aX r) o):=Kz st (dJ r) o
theorem aOr (n:Node) (r:cK):aC Tryz.prog 151 [.agg (fG n),.ip (aX r) 0]=some (.v (.bool (decide (n.block.root=r)))):=by
 rw[cL Tryz.func151 rfl aJw rfl];simp only[ZZ,seval];exact bW rfl (by simp only[EV,seval]) (.v _)
theorem aBH (r:cK):Flat (.ip (aX r) 0):=.ip _ _ (dJ r)
theorem aJx (n:Node) (r:cK) (st:St) (d:Option Nat):aL (aC Tryz.prog) 151 ([.agg (fG n)]++[.ip (aX r) 0]) st d=some { dst:=d,val:=.v (.bool (decide (n.block.root=r)))}:=bK (bH (.agg _ (La n)) (aBH r)) (aOr n r) (.v _)
theorem aOs (ns:List Node) (hn:(ns.length:Int)<1000000) (r:cK):aC Tryz.prog 150 [.sl ns.length (cD ns),.uO 151 [.ip (aX r) 0]]=some (.v (.int .i64 (aN ns r))):=by
 rw[cL Tryz.func150 rfl aJy rfl];simp only[ZZ,seval];refine lV (fun n st=>∃i:Int,(st.env 0=.sl ns.length (cD ns)∧st.env 1=.uO 151 [.ip (aX r) 0]∧st.env 7=.v (.int .i64 ns.length)∧st.env 8=.v (.int .i64 i))∧0≤i∧i≤ns.length∧n=(ns.length-i).toNat∧∀j,0≤j→j<i→(nd ns j).block.root≠r)
  (fun e st=>(e=.ret∧st.env 4=.v (.int .i64 (aN ns r)))∨(e=.exit 0∧aN ns r=-1)) ns.length ?step ?start ?rest
 case step =>
  rintro n st ⟨i,hI,i0,i1,Iq,hb⟩
  by_cases bA:i<ns.length
  ·have hw:IntKind.i64.wrap (i+1)=i+1:=Gt _ (by omega) (by omega)
   by_cases hr:(nd ns i).block.root=r
   ·have hd:decide ((nd ns i).block.root=r)=true:=decide_eq_true hr
    apply oT (.ret)
    ·simp only[ZZ,seval,hI,bA,i0,aJx,hd];rfl
    ·exact .inl ⟨rfl,by simp only[EV,seval,LF i0 bA hr hb]⟩
   ·have hd:decide ((nd ns i).block.root=r)=false:=decide_eq_false hr
    apply oN ((ns.length-(i+1)).toNat)
    ·simp only[ZZ,seval,hI,bA,i0,aJx,hd,hw];rfl
    ·exact⟨i+1,by simp only[EV,seval,hI],by omega,by omega,rfl,fun j j0 j1=>by
     rcases Int.lt_or_eq_of_le (show j≤i by omega) with h|rfl
     ·exact hb j j0 h
     ·exact hr⟩
  ·apply oT (.exit 0)
   ·simp only[ZZ,seval,hI,bA,i0];rfl
   ·exact .inr ⟨rfl,Wb fun j j0 j1=>hb j j0 (by omega)⟩
 case start=>exact⟨0,(by simp only[EV,seval]),by omega,by omega,by omega,fun j _ _=>by omega⟩
 case rest =>
  rintro e st (⟨rfl,h⟩|⟨rfl,h⟩)
  ·simp only[ZZ,seval];exact bW rfl h (.v _)
  ·simp only[ZZ,seval];exact bW rfl (by simp only[EV,seval,h]) (.v _)
theorem aOt (args:List AV) (st:St) (d:Option Nat):aL (aC Tryz.prog) 150 args st d=sA (aC Tryz.prog) 150 (cC (args.map (fK st))) (decide (∀x∈args,Flat x)) st d:=lF _ _ _ _ _
theorem aOu (ns:List Node) (hn:(ns.length:Int)<1000000) (r:cK) (fl:Bool) (st:St) (d:Option Nat):sA (aC Tryz.prog) 150 (some [.sl ns.length (cD ns),.uO 151 [.ip (aX r) 0]]) fl st d=some { dst:=d,val:=.v (.int .i64 (aN ns r))}:=Ss (aOs ns hn r)
theorem M4 (st:St) (n:Nat) (l:List Node):fK st (.sl n (cD l))=some (.sl n (cD l)):=dP (.sl _ _ (kD l))
theorem c89 (ns:List Node) (r:cK) (hn:(ns.length:Int)<1000000):aC Tryz.prog 89 [.agg (cX ⟨ns⟩),.agg (aX r)]=some (.v (.int .i64 (aN ns r))):=by
 rw[cL Tryz.func89 rfl aOv rfl];simp only[ZZ,seval,aOt,Cn,SR,M4,aOu,hn];exact bW rfl (by simp only[EV,seval]) (.v _)
theorem k89 (ns:List Node) (r:cK) (hn:(ns.length:Int)<1000000) (st:St) (d:Option Nat):aL (aC Tryz.prog) 89 [.agg (cX ⟨ns⟩),.agg (aX r)] st d=some { dst:=d,val:=.v (.int .i64 (aN ns r))}:=bK (bH (nC _) (qK _)) (c89 ns r hn) (.v _)
end Go.Ab.Tryz
namespace Go.Ab.Tryz
open Classical Go.Proofs Go.Ab
end Go.Ab.Tryz
namespace Go.Ab.Tryz
open Classical Go.Proofs Go.Ab
noncomputable def aFC (l:List Int):AV:=if l=[] then .v (.slice none 0 0) else .uniq 3 1 l.length (aJ l)
theorem Wc:aFC []=.v (.slice none 0 0):=if_pos rfl
theorem XX {l:List Int} (h:l≠[]):aFC l=.uniq 3 1 l.length (aJ l):=if_neg h
def Su (ns:List Node) (i:Int):Nat→List Int
 | 0=>[]
 | k+1=>if (nd ns k).up=i then Su ns i k++[(k:Int)] else Su ns i k
theorem Uw (ns:List Node) (i:Int):∀k,(Su ns i k).length≤k
 | 0=>Nat.le_refl _
 | k+1=>by
   have:=Uw ns i k
   simp only[Su];split
   ·simp;omega
   ·omega
theorem LG {ns:List Node} {i:Int}:∀k:Nat,(∀j:Int,0≤j→j<k→(nd ns j).up≠i)→Su ns i k=[]
 | 0,_=>rfl
 | k+1,h=>by
   simp only[Su];rw[if_neg (h k (by omega) (by omega))]
   exact LG k fun j j0 j1=>h j j0 (by omega)
theorem aJz {ns:List Node} (hu:iD ns) (hr:(nd ns 0).up=-1) {j:Int} (j0:0≤j) (j1:j<ns.length):(nd ns j).up<ns.length:=by
 by_cases h:j=0
 ·subst h;omega
 ·have:=hu j (by omega) j1;omega
def wG (ns:List Node) (i:Int):List Int:=if i<0 then [] else Su ns i ns.length
theorem LH {ns:List Node} (hu:iD ns) (hr:(nd ns 0).up=-1) {i:Int} (h:¬(0≤i∧i<ns.length)):wG ns i=[]:=by
 unfold wG;split
 ·rfl
 ·exact LG _ fun j j0 j1=>by have:=aJz hu hr j0 j1;omega
theorem aJA (ns:List Node) (hu:iD ns) (hr:(nd ns 0).up=-1) (hn:(ns.length:Int)<1000000) (i:Int):aC Tryz.prog 245 [.agg (cX ⟨ns⟩),.v (.int .i64 i)]=some (aFC (wG ns i)):=by
 rw[cL Tryz.func245 rfl aJB rfl];by_cases hm:0≤i∧i<ns.length
 ·have hd:(decide (0≤i) && decide (i<ns.length))=true:=by simp[hm.1,hm.2]
  rw[show wG ns i=Su ns i ns.length from if_neg (by omega)]
  simp only[ZZ,seval];refine lV (fun n st=>∃k:Nat,(st.env 1=.v (.int .i64 i)∧st.env 2=.ptr 2 0 0∧st.heap 2 0=some (.cells (cX ⟨ns⟩))∧st.env 6=.v (.int .i64 k)) ∧
   ((Su ns i k=[]∧st.env 5=.v (.slice none 0 0))∨(Su ns i k≠[]∧∃g,st.env 5=.own 30 g∧g<st.aP 30∧st.heap 30 g=some (.row 3 1 (Su ns i k).length (aJ (Su ns i k)))))∧k≤ns.length∧n=ns.length-k)
   (fun e st=>e=.exit 0∧((Su ns i ns.length=[]∧st.env 5=.v (.slice none 0 0))∨(Su ns i ns.length≠[]∧∃g,st.env 5=.own 30 g∧g<st.aP 30∧st.heap 30 g=some (.row 3 1 (Su ns i ns.length).length (aJ (Su ns i ns.length)))))) ns.length ?step ?start ?rest
  case step =>
   rintro n st ⟨k,hI,h5,hk,Iq⟩
   have hl:=Uw ns i k
   have Gl:((Su ns i k).length:Int)<1000000:=by omega
   by_cases bA:(k:Int)<ns.length
   ·have hw:IntKind.i64.wrap ((k:Int)+1)=((k+1:Nat):Int):=by rw[Gt _ (by omega) (by omega)];omega
    have q0:(0:Int)≤k:=by omega
    by_cases hu:(nd ns k).up=i
    ·have hq:((nd ns k).up == i)=true:=by simp[hu]
     have hs:Su ns i (k+1)=Su ns i k++[(k:Int)]:=by simp only[Su,hu,if_true]
     rcases h5 with ⟨hy,h5⟩|⟨hy,g,h5⟩
     ·rw[hy] at hs;apply oN (ns.length-(k+1))
      ·simp only[ZZ,seval,hI,h5,bA,hw,q0,hq,RV,hd];rfl
      ·exact⟨k+1,by simp only[EV,seval,hI],.inr ⟨by rw[hs];simp,_,by simp only[EV,seval]<;>rfl,(by simp only[EV,seval]<;>omega),(by rw[hs];simp only[EV,seval]<;>rfl)⟩,by omega,rfl⟩
     ·apply oN (ns.length-(k+1))
      ·simp only[ZZ,seval,hI,h5,Gl,bA,hw,q0,hq,RV,hd];rfl
      ·exact⟨k+1,by simp only[EV,seval,hI],.inr ⟨by rw[hs];simp,_,by simp only[EV,seval]<;>rfl,(by simp only[EV,seval]<;>omega),(by rw[hs];simp only[EV,seval]<;>rfl)⟩,by omega,rfl⟩
    ·have hq:((nd ns k).up == i)=false:=by simp[hu]
     have hs:Su ns i (k+1)=Su ns i k:=by simp only[Su,hu,if_false]
     apply oN (ns.length-(k+1))
     ·simp only[ZZ,seval,hI,bA,hw,q0,hq,RV,hd];rfl
     ·exact⟨k+1,by simp only[EV,seval,hI],by rw[hs];simpa only[EV,seval] using h5,by omega,rfl⟩
   ·obtain rfl:k=ns.length:=by omega
    apply oT (.exit 0)
    ·simp only[ZZ,seval,hI,bA];rfl
    ·exact⟨rfl,by simpa only[EV,seval] using h5⟩
  case start=>exact⟨0,(by simp only[EV,seval]),.inl ⟨rfl,(by simp only[EV,seval])⟩,by omega,rfl⟩
  case rest =>
   rintro e st ⟨rfl,⟨hy,h5⟩|⟨hy,g,h5,hg,Ae⟩⟩
   ·rw[hy,Wc];simp only[ZZ,seval,h5];exact bW rfl (by simp only[EV,seval]) (.v _)
   ·rw[XX hy];simp only[ZZ,seval,h5,Ae];exact sP rfl (by simp only[EV,seval];rfl) (by simp only[EV,seval,Ae]) (gF _)
 ·have hd:(decide (0≤i) && decide (i<ns.length))=false:=by
   rw[← Bool.not_eq_true];simpa using hm
  rw[LH hu hr hm,Wc];by_cases h0:(0:Int)<ns.length
  ·simp only[ZZ,seval,Gu,RV,hd,h0];exact bW rfl (by simp only[EV,seval]) (.v _)
  ·simp only[ZZ,seval,Gu,RV,hd,h0];exact bW rfl (by simp only[EV,seval]) (.v _)
theorem aJC (ns:List Node) (hu:iD ns) (hr:(nd ns 0).up=-1) (hn:(ns.length:Int)<1000000) (i:Int) (h:wG ns i≠[]) (st:St) (d:Nat):aL (aC Tryz.prog) 245 [.agg (cX ⟨ns⟩),.v (.int .i64 i)] st (some d)=some { dst:=some d,val:=.own d (st.aP d),new:=some (d,[.row 3 1 (wG ns i).length (aJ (wG ns i))])}:=by
 have hc:=aJA ns hu hr hn i
 rw[XX h] at hc;exact jF (bH (nC _) (.v _)) hc
theorem aEn (ns:List Node) (hu:iD ns) (hr:(nd ns 0).up=-1) (hn:(ns.length:Int)<1000000) (i:Int) (h:wG ns i=[]) (st:St) (d:Option Nat):aL (aC Tryz.prog) 245 [.agg (cX ⟨ns⟩),.v (.int .i64 i)] st d=some { dst:=d,val:=.v (.slice none 0 0)}:=by
 have hc:=aJA ns hu hr hn i
 rw[h,Wc] at hc;exact bK (bH (nC _) (.v _)) hc (.v _)
end Go.Ab.Tryz
namespace Go.Ab.Tryz
open Classical Go.Proofs Go.Ab
end Go.Ab.Tryz
namespace Go.Ab.Tryz
open Classical Go.Proofs Go.Ab
theorem Ni [Ext] {P:Program} {f:Nat} {fn:Func} {st:St} {e:Ex} {r:ResultVar} {x y:AV} (hk:Ext.qH f=true) (he:e=.ret∨e=.normal) (hr:fn.results.toList=[r]) (h1:bV P st r=some x) (hn:(lW x).Nodup) (hy:Ci st x=some y):Af P f fn (e,st)=some y:=by
 have h:jT P f fn st=some y:=by
  unfold jT;rw[hk,if_pos rfl];unfold Mu;rw[hr];simp only[tU,h1,cN,if_pos hn,hy]
 rcases he with rfl|rfl<;>exact h
theorem LI [Ext] {P:Program} {f:Nat} {fn:Func} {st:St} {e:Ex} {r1 r2:ResultVar} {x1 x2 y:AV} (hk:Ext.qH f=true) (he:e=.ret∨e=.normal) (hr:fn.results.toList=[r1,r2]) (h1:bV P st r1=some x1) (h2:bV P st r2=some x2)
 (hn:(lW (.eN [x1,x2])).Nodup) (hy:Ci st (.eN [x1,x2])=some y):Af P f fn (e,st)=some y:=by
 have h:jT P f fn st=some y:=by
  unfold jT;rw[hk,if_pos rfl];unfold Mu;rw[hr];simp only[List.map_cons,List.map_nil,tU,h1,h2,cN,cC,Option.map_some,if_pos hn,hy]
 rcases he with rfl|rfl<;>exact h
theorem DI {st:St} {s g e sz n:Nat} {cs:List AV} (h:st.heap s g=some (.row e sz n cs)) (hf:∀c∈cs,Flat c):rW st (.agg [.own s g])=some (.agg [.uniq e sz n cs]):=by
 simp only[rW,List.map_cons,List.map_nil,kN,if_neg (nF s g),h,if_pos hf,cC,Option.map_some]
theorem o9 (st:St):rW st (.agg [.v (.slice none 0 0)])=some (.agg [.v (.slice none 0 0)]):=by
 simp only[rW,List.map_cons,List.map_nil,kN,if_pos (Flat.v _),cC,Option.map_some]
theorem XY (st:St) (x:Value):rW st (.v x)=some (.v x):=by simp only[rW,kN,if_pos (Flat.v x)]
theorem DJ {st:St} {a b x y:AV} (h1:rW st a=some x) (h2:rW st b=some y):Ci st (.eN [a,b])=some (.eN [x,y]):=by
 simp only[Ci,List.map_cons,List.map_nil,h1,h2,cC,Option.map_some]
theorem p6 {st:St} {cs:List AV} {x:AV} (h1:rW st (.agg cs)=some x):Ci st (.agg cs)=some x:=h1
theorem Ka (e sz n:Nat) (cs:List AV):¬Flat (.uniq e sz n cs):=by intro h;cases h
theorem p7 {e sz n:Nat} {cs:List AV} {st:St} {d:Nat}:jA (.agg [.uniq e sz n cs]) st (some d)=some { dst:=some d,val:=.agg [.own d (st.aP d)],new:=some (d,[.row e sz n cs])}:=by
 have hn:¬Flat (.agg [.uniq e sz n cs]):=by intro h;cases h with|agg _ h=>exact Ka e sz n cs (h _ (by simp))
 unfold jA;rw[if_neg hn];rfl
theorem p8 {e sz n:Nat} {cs:List AV} {x:Value} {st:St} {d:Nat}:jA (.eN [.agg [.uniq e sz n cs],.v x]) st (some d)=some { dst:=some d,val:=.eN [.agg [.own d (st.aP d)],.v x],new:=some (d,[.row e sz n cs])}:=by
 have hn:¬Flat (.eN [.agg [.uniq e sz n cs],.v x]):=by
  intro h;cases h with
  | eN _ h =>
    have:=h (.agg [.uniq e sz n cs]) (by simp)
    cases this with
    | agg _ h=>exact Ka e sz n cs (h _ (by simp))
 unfold jA;rw[if_neg hn];rfl
theorem aBI {call:Nat→List AV→Option AV} {g:Nat} {args:List AV} {d e sz n:Nat} {cs:List AV} {st:St} (hf:∀x∈args,Flat x) (h:call g args=some (.agg [.uniq e sz n cs])):aL call g args st (some d)=some { dst:=some d,val:=.agg [.own d (st.aP d)],new:=some (d,[.row e sz n cs])}:=by
 unfold aL;rw[if_pos hf,h];exact p7
theorem aJD {call:Nat→List AV→Option AV} {g:Nat} {xs:List AV} {d e sz n:Nat} {cs:List AV} {x:Value} {fl:Bool} {st:St} (h:call g xs=some (.eN [.agg [.uniq e sz n cs],.v x])) (hm:∀c∈cs,dY c):sA call g (some xs) fl st (some d)=some { dst:=some d,val:=.eN [.agg [.own d (st.aP d)],.v x],new:=some (d,[.row e sz n cs])}:=by
 have XZ:Vl (.eN [.agg [.uniq e sz n cs],.v x]):=by
  intro y hy;rcases List.mem_cons.1 hy with rfl|hy
  ·intro c hc;simp at hc
   subst hc;exact hm
  ·simp at hy
   subst hy;exact .v _
 unfold sA;simp only[cZ,h,XZ,or_true,if_true];exact p8
theorem aJE {call:Nat→List AV→Option AV} {g:Nat} {xs:List AV} {x y:Value} {fl:Bool} {st:St} {d:Option Nat} (h:call g xs=some (.eN [.agg [.v y],.v x])):sA call g (some xs) fl st d=some { dst:=d,val:=.eN [.agg [.v y],.v x]}:=by
 have hf:∀z∈[AV.agg [.v y],.v x],Flat z:=bH (.agg _ (cV (.v _))) (.v _)
 refine p9 h ?_ (.eN _ hf)
 intro z hz;rcases List.mem_cons.1 hz with rfl|hz
 ·intro c hc;simp at hc;subst hc;exact .v _
 ·simp at hz;subst hz;exact .v _
theorem YA {z:Nat} {α:Type} (f:α→List AV) (hf:∀x,(f x).length=z):∀(l:List α) (i o:Nat) (hi:i<l.length),o<z→(l.flatMap f)[i * z+o]? = (f l[i])[o]?
 | [],i,o,hi,_=>by simp at hi
 | a :: l,0,o,_,ho=>by
   simp only[List.flatMap_cons,Nat.zero_mul,Nat.zero_add,List.getElem_cons_zero];rw[List.getElem?_append_left (by rw[hf];exact ho)]
 | a :: l,i+1,o,hi,ho=>by
   have ih:=YA f hf l i o (by simpa using hi) ho
   simp only[List.flatMap_cons,List.getElem_cons_succ];rw[List.getElem?_append_right (by rw[hf,Nat.succ_mul];omega),hf,show (i+1) * z+o-z=i * z+o by rw[Nat.succ_mul];omega]
   exact ih
theorem YB {z:Nat} {α:Type} (f:α→List AV) (hf:∀x,(f x).length=z) (o e:Nat) (xs:List AV) (hoe:o≤e) (he:e≤z):∀(l:List α) (i:Nat) (hi:i<l.length) (y:α),dK (f l[i]) o xs e=f y→dK (l.flatMap f) (i * z+o) xs (i * z+e)=(l.set i y).flatMap f
 | [],i,hi,_,_=>by simp at hi
 | a :: l,0,_,y,h=>by
   simp only[List.flatMap_cons,Nat.zero_mul,Nat.zero_add,List.set_cons_zero,List.getElem_cons_zero] at h ⊢;rw[← h];unfold dK;rw[List.take_append_of_le_length (by rw[hf];omega),List.drop_append_of_le_length (by rw[hf];omega)]
   simp
 | a :: l,i+1,hi,y,h=>by
   have ih:=YB f hf o e xs hoe he l i (by simpa using hi) y (by simpa using h)
   simp only[List.flatMap_cons,List.set_cons_succ];rw[← ih];unfold dK;have h1:(i+1) * z+o=z+(i * z+o):=by rw[Nat.succ_mul];omega
   have h2:(i+1) * z+e=z+(i * z+e):=by rw[Nat.succ_mul];omega
   rw[h1,h2,List.take_append,List.drop_append,List.take_of_length_le (by rw[hf];omega),List.drop_of_length_le (by rw[hf];omega),hf,Nat.add_sub_cancel_left,Nat.add_sub_cancel_left]
   simp
theorem r7 {l:List Bool} {xs:List AV} (h:iC l xs xs):∀c∈xs,dY c:=by
 obtain⟨us,vs,rfl,_,_⟩:=Ck _ _ _ h
 intro c hc;obtain⟨x,_,rfl⟩:=List.mem_map.1 hc
 exact .v _
theorem Wd (l:List Node):∀c∈cD l,dY c:=fun c hc=>by
 obtain⟨n,_,h⟩:=List.mem_flatMap.1 hc
 exact r7 (We n n) c h
theorem r9 {l:List Node} {i:Int} (h0:0≤i) (h1:i<l.length) (o:Nat) (ho:o<240):(cD l)[i.toNat * 240+o]? = (fG (nd l i))[o]?:=by
 obtain⟨h,e⟩:=Lb h0 h1
 rw[e];exact YA fG vC l i.toNat o h ho
theorem u4 {l:List Node} {i:Int} (h0:0≤i) (h1:i<l.length) {o e:Nat} {xs:List AV} (hoe:o≤e) (he:e≤240) {y:Node} (h:dK (fG (nd l i)) o xs e=fG y):dK (cD l) (i.toNat * 240+o) xs (i.toNat * 240+e)=cD (l.set i.toNat y):=by
 obtain⟨hi,e'⟩:=Lb h0 h1
 rw[e'] at h;exact YB fG vC o e xs hoe he l i.toNat hi y h
def Wf (n:Node) (s:Int):Node:={ n with status:=s }
def setAt (ns:List Node) (i s:Int):List Node:=ns.set i.toNat (Wf (nd ns i) s)
theorem SS {l:List Node} {i s:Int} (h0:0≤i) (h1:i<l.length):dK (cD l) (i.toNat * 240+239) [.v (.int .i64 s)] (i.toNat * 240+240)=cD (setAt l i s) :=
 u4 h0 h1 (by decide) (by decide) (Gv (nd l i) _)
theorem SU {l:List Node} {i:Int} (h0:0≤i) (h1:i<l.length):(cD l)[i.toNat * 240+239]? = some (.v (.int .i64 (nd l i).status)):=by
 rw[r9 h0 h1 239 (by decide)]
 exact Fm (nd l i)
theorem Co (ns:List Node) (i s:Int):(setAt ns i s).length=ns.length:=by simp[setAt]
def DK (to never:Int):List Int→List Node→Option (List Node)
 | [],ns=>some ns
 | i :: l,ns=>if (nd ns i).status=never then none else DK to never l (setAt ns i to)
theorem FO {to never:Int}:∀(l:List Int) (ns r:List Node),DK to never l ns=some r→r.length=ns.length
 | [],ns,r,h=>by simp only[DK,Option.some.injEq] at h;rw[h]
 | i :: l,ns,r,h=>by
   simp only[DK] at h;split at h
   ·cases h
   ·rw[FO l _ r h,Co]
theorem SW {l:List Node} (h:0<l.length):cD l≠[]:=by
 intro he;have:=congrArg List.length he
 rw[Lc] at this;simp only[List.length_nil] at this;omega
theorem aOx (l:List Node) (h0:0<l.length) (hn:(l.length:Int)<1000000):aC Tryz.prog 192 [.sl l.length (cD l)]=some (.uniq 76 240 l.length (cD l)):=by
 rw[cL Tryz.func192 rfl aJF rfl];have gW:=SW h0
 have ha:=fun s g=>Iu (e:=76) (sz:=240) (by_:=352) (s:=s) (g:=g) (n:=l.length) (cs:=cD l) (by simp) (by omega) (by unfold maxLen;omega)
 simp only[ZZ,seval,gW,ha];exact sP rfl (by simp only[EV,seval];rfl) (by simp only[EV,seval]) (kD _)
theorem aOy (l:List Node) (h0:0<l.length) (hn:(l.length:Int)<1000000) (st:St) (d:Nat):aL (aC Tryz.prog) 192 [.sl l.length (cD l)] st (some d)=some { dst:=some d,val:=.own d (st.aP d),new:=some (d,[.row 76 240 l.length (cD l)])}:=jF (cV (.sl _ _ (kD l))) (aOx l h0 hn)
theorem aOz (ns:List Node) (h0:0<ns.length) (hn:(ns.length:Int)<1000000):aC Tryz.prog 165 [.agg (cX ⟨ns⟩)]=some (.agg [.uniq 76 240 ns.length (cD ns)]):=by
 rw[cL Tryz.func165 rfl aJG rfl];have hK:=aOy ns h0 hn
 simp only[ZZ,seval,hK];refine Ni rfl (.inl rfl) rfl (x:=.agg [.own 5 0]) (by simp only[bV,ZZ,seval]) (by simp[lW,jE,gJ]) (p6 (DI (by simp only[EV,seval]) (kD _)))
theorem aOA (ns:List Node) (h0:0<ns.length) (hn:(ns.length:Int)<1000000) (st:St) (d:Nat):aL (aC Tryz.prog) 165 [.agg (cX ⟨ns⟩)] st (some d)=some { dst:=some d,val:=.agg [.own d (st.aP d)],new:=some (d,[.row 76 240 ns.length (cD ns)])}:=aBI (cV (nC _)) (aOz ns h0 hn)
theorem aBJ {l:List Int} {k:Nat} (h:k<l.length):l.drop k=it l k :: l.drop (k+1):=by
 rw[List.drop_eq_getElem_cons h];simp[it,h]
theorem aJH (s g:Nat) (x:Value):(lW (.eN [.agg [.own s g],.v x])).Nodup:=by simp[lW,jE,gJ]
theorem aJI (y x:Value):(lW (.eN [.agg [.v y],.v x])).Nodup:=by simp[lW,jE,gJ]
def AY (e:Int):AV:=.eN [.agg [.v (.slice none 0 0)],.v (.int .i64 e)]
def chS (o:Option (List Node)):AV :=
 match o with
 | none=>.eN [.agg [.v (.slice none 0 0)],.v (.bool false)]
 | some r=>.eN [.agg [.uniq 76 240 r.length (cD r)],.v (.bool true)]
theorem aJJ (ns:List Node) (h0:0<ns.length) (hn:(ns.length:Int)<1000000) (l:List Int) (hl:(l.length:Int)<1000000) (hm:∀x∈l,0≤x∧x<ns.length) (to never:Int) :
 aC Tryz.prog 247 [.agg (cX ⟨ns⟩),.sl l.length (aJ l),.v (.int .i64 to),.v (.int .i64 never)]=some (chS (DK to never l ns)):=by
 rw[cL Tryz.func247 rfl aJK rfl];simp only[ZZ,seval,hn];refine lV (fun n st=>∃(k:Nat) (cur:List Node),(st.env 1=.sl l.length (aJ l)∧st.env 2=.v (.int .i64 to)∧st.env 3=.v (.int .i64 never)∧st.env 8=.ptr 8 0 0∧st.heap 8 0=some (.cells [.v (.slice none 0 0)])∧st.env 10=.ptr 10 0 0∧st.heap 10 0=some (.cells [.own 14 0])∧st.heap 14 0=some (.row 76 240 cur.length (cD cur))∧st.env 11=.v (.int .i64 k))∧cur.length=ns.length∧DK to never l ns=DK to never (l.drop k) cur∧k≤l.length∧n=l.length-k)
  (fun e st=>(e=.ret∧DK to never l ns=none∧st.env 8=.ptr 8 0 0∧st.heap 8 0=some (.cells [.v (.slice none 0 0)])∧st.env 9=.v (.bool false))∨(e=.exit 0∧∃r,DK to never l ns=some r∧st.env 8=.ptr 8 0 0∧st.heap 8 0=some (.cells [.v (.slice none 0 0)])∧st.env 10=.ptr 10 0 0∧st.heap 10 0=some (.cells [.own 14 0])∧st.heap 14 0=some (.row 76 240 r.length (cD r)))) l.length ?step ?start ?rest
 case step =>
  rintro n st ⟨k,cur,hI,Ag,hc,hk,Iq⟩
  by_cases bA:(k:Int)<l.length
  ·have q0:(0:Int)≤k:=by omega
   have hw:IntKind.i64.wrap ((k:Int)+1)=((k+1:Nat):Int):=by rw[Gt _ (by omega) (by omega)];omega
   obtain⟨x0,x1⟩:=hm _ (Ee q0 bA)
   have x2:it l k<cur.length:=by omega
   rw[aBJ (by omega)] at hc
   simp only[DK] at hc;have hg:=SU x0 x2
   by_cases hs:(nd cur (it l k)).status=never
   ·rw[if_pos hs] at hc;have hb:((nd cur (it l k)).status == never)=true:=by simp[hs]
    apply oT (.ret)
    ·simp only[ZZ,seval,hI,bA,q0,x0,x2,hg,hb];rfl
    ·exact .inl ⟨rfl,hc,by simp only[EV,seval,hI],by simp only[EV,seval,hI],by simp only[EV,seval,hI]⟩
   ·rw[if_neg hs] at hc;have hb:((nd cur (it l k)).status == never)=false:=by simp[hs]
    have hu:=SS (s:=to) x0 x2
    have hle:(it l k).toNat * 240+239+1≤cur.length * 240:=by
     have:((it l k).toNat+1) * 240≤cur.length * 240:=Nat.mul_le_mul_right _ (by omega)
     omega
    have hle2:(it l k).toNat * 240+240≤cur.length * 240:=by omega
    apply oN (l.length-(k+1))
    ·simp only[ZZ,seval,hI,bA,q0,x0,x2,hg,hb,hu,hle,hle2,hw];rfl
    ·exact⟨k+1,setAt cur (it l k) to,by simp only[EV,seval,hI,Co],by rw[Co];exact Ag,hc,by omega,rfl⟩
  ·obtain rfl:k=l.length:=by omega
   rw[List.drop_length] at hc;apply oT (.exit 0)
   ·simp only[ZZ,seval,hI,bA];rfl
   ·exact .inr ⟨rfl,cur,hc,by simp only[EV,seval,hI]⟩
 case start=>exact⟨0,ns,by simp only[EV,seval]<;>rfl,rfl,rfl,by omega,by omega⟩
 case rest =>
  rintro e st (⟨rfl,hc,hI⟩|⟨rfl,r,hc,hI⟩)
  ·rw[hc];simp only[ZZ,seval];exact LI rfl (.inl rfl) rfl (x1:=.agg [.v (.slice none 0 0)]) (x2:=.v (.bool false)) (by simp only[bV,ZZ,seval,hI]) (by simp only[bV,ZZ,seval,hI]) (aJI _ _) (DJ (o9 _) (XY _ _))
  ·rw[hc];simp only[ZZ,seval,hI];exact LI rfl (.inl rfl) rfl (x1:=.agg [.own 14 0]) (x2:=.v (.bool true)) (by simp only[bV,ZZ,seval,hI]) (by simp only[bV,ZZ,seval,hI]) (aJH _ _ _) (DJ (DI (by simp only[EV,seval,hI]) (kD _)) (XY _ _))
theorem FP {ns:List Node} (hu:iD ns) {c:Int} (c0:0≤c) (c1:c<ns.length):0<(path ns c).length:=List.length_pos_iff.2 fun h=>by
 have:=yG hu c0 c1
 rw[h] at this;cases this
theorem u5 {ns:List Node} (hu:iD ns) {c:Int} (c0:0≤c) (c1:c<ns.length):it (path ns c) ((path ns c).length-1:Int)=c:=by
 by_cases h:c=0
 ·subst h;rw[rE (by omega)]
  rfl
 ·rw[rG hu (by omega) c1]
  exact Cm (by simp)
theorem c64 (ns:List Node) (hu:iD ns) (hn:(ns.length:Int)<1000000) (i:Int):aC Tryz.prog 64 [.agg (cX ⟨ns⟩),.v (.int .i64 i)]=some (if Gd ns i ns.length=[] then .v (.slice none 0 0) else .uniq 3 1 (Gd ns i ns.length).length (aJ (Gd ns i ns.length))):=by
 rw[cL Tryz.func64 rfl aOB rfl];have h41:=Nf ns hu hn
 simp only[ZZ,seval];refine lV (fun n st=>∃k:Nat,st.env 1=.v (.int .i64 i)∧st.env 2=.ptr 2 0 0∧st.heap 2 0=some (.cells (cX ⟨ns⟩))∧st.env 6=.v (.int .i64 k) ∧
  ((Gd ns i k=[]∧st.env 5=.v (.slice none 0 0))∨(Gd ns i k≠[]∧∃g,st.env 5=.own 21 g∧g<st.aP 21∧st.heap 21 g=some (.row 3 1 (Gd ns i k).length (aJ (Gd ns i k)))))∧k≤ns.length∧n=ns.length-k)
  (fun e st=>e=.exit 0∧((Gd ns i ns.length=[]∧st.env 5=.v (.slice none 0 0))∨(Gd ns i ns.length≠[]∧∃g,st.env 5=.own 21 g∧g<st.aP 21∧st.heap 21 g=some (.row 3 1 (Gd ns i ns.length).length (aJ (Gd ns i ns.length)))))) ns.length ?step ?start ?rest
 case step =>
  rintro n st ⟨k,h1,h2,uR,h6,h5,hk,Iq⟩
  have hdl:=Uv ns i k
  have hdl':((Gd ns i k).length:Int)<1000000:=by omega
  by_cases bA:(k:Int)<ns.length
  ·have hw:IntKind.i64.wrap ((k:Int)+1)=((k+1:Nat):Int):=by rw[Gt _ (by omega) (by omega)];omega
   cases ha:At ns i k
   ·have hs:Gd ns i (k+1)=Gd ns i k:=by simp only[Gd,ha,Bool.false_eq_true,if_false]
    rcases h5 with ⟨hy,h5⟩|⟨hy,g,h5,hg,Ae⟩
    ·apply oN (ns.length-(k+1))
     ·simp only[ZZ,seval,h1,h2,uR,h6,h5,bA,hw,h41,ha];rfl
     ·exact⟨k+1,by simp only[EV,seval,h1],by simp only[EV,seval,h2],by simp only[EV,seval,uR],(by simp only[EV,seval]),.inl ⟨by rw[hs];exact hy,by simp only[EV,seval,h5]⟩,by omega,rfl⟩
    ·apply oN (ns.length-(k+1))
     ·simp only[ZZ,seval,h1,h2,uR,h6,h5,Ae,bA,hw,h41,ha];rfl
     ·exact⟨k+1,by simp only[EV,seval,h1],by simp only[EV,seval,h2],by simp only[EV,seval,uR],(by simp only[EV,seval]),.inr ⟨by rw[hs];exact hy,g,by simp only[EV,seval,h5],(by simp only[EV,seval]<;>omega),(by rw[hs];simp only[EV,seval,Ae])⟩,by omega,rfl⟩
   ·have hs:Gd ns i (k+1)=Gd ns i k++[(k:Int)]:=by simp only[Gd,ha,if_true]
    rcases h5 with ⟨hy,h5⟩|⟨hy,g,h5,hg,Ae⟩
    ·rw[hy] at hs;apply oN (ns.length-(k+1))
     ·simp only[ZZ,seval,h1,h2,uR,h6,h5,bA,hw,h41,ha];rfl
     ·exact⟨k+1,by simp only[EV,seval,h1],by simp only[EV,seval,h2],by simp only[EV,seval,uR],(by simp only[EV,seval]),.inr ⟨by rw[hs];simp,_,by simp only[EV,seval]<;>rfl,(by simp only[EV,seval]<;>omega),(by rw[hs];simp only[EV,seval]<;>rfl)⟩,by omega,rfl⟩
    ·apply oN (ns.length-(k+1))
     ·simp only[ZZ,seval,h1,h2,uR,h6,h5,Ae,hdl',bA,hw,h41,ha];rfl
     ·exact⟨k+1,by simp only[EV,seval,h1],by simp only[EV,seval,h2],by simp only[EV,seval,uR],(by simp only[EV,seval]),.inr ⟨by rw[hs];simp,_,by simp only[EV,seval]<;>rfl,(by simp only[EV,seval]<;>omega),(by rw[hs];simp only[EV,seval]<;>rfl)⟩,by omega,rfl⟩
  ·obtain rfl:k=ns.length:=by omega
   apply oT (.exit 0)
   ·simp only[ZZ,seval,h2,uR,h6,bA];rfl
   ·exact⟨rfl,by simpa only[EV,seval] using h5⟩
 case start=>exact⟨0,(by simp only[EV,seval]),(by simp only[EV,seval]),(by simp only[EV,seval]),(by simp only[EV,seval]),.inl ⟨rfl,(by simp only[EV,seval])⟩,by omega,rfl⟩
 case rest =>
  rintro e st ⟨rfl,⟨hy,h5⟩|⟨hy,g,h5,hg,Ae⟩⟩
  ·rw[if_pos hy];simp only[ZZ,seval,h5];exact bW rfl (by simp only[EV,seval]) (.v _)
  ·rw[if_neg hy];simp only[ZZ,seval,h5,Ae];exact sP rfl (by simp only[EV,seval];rfl) (by simp only[EV,seval,Ae]) (gF _)
theorem k64 (ns:List Node) (hu:iD ns) (hn:(ns.length:Int)<1000000) (i:Int) (h:Gd ns i ns.length≠[]) (st:St) (d:Nat):aL (aC Tryz.prog) 64 [.agg (cX ⟨ns⟩),.v (.int .i64 i)] st (some d)=some { dst:=some d,val:=.own d (st.aP d),new:=some (d,[.row 3 1 (Gd ns i ns.length).length (aJ (Gd ns i ns.length))])}:=by
 have hc:=c64 ns hu hn i
 rw[if_neg h] at hc;exact jF (bH (nC _) (.v _)) hc
end Go.Ab.Tryz
namespace Go.Ab.Tryz
open Classical Go.Proofs Go.Ab
end Go.Ab.Tryz
namespace Go.Ab.Tryz
open Classical Go.Proofs Go.Ab
theorem aBK (args:List AV) (st:St) (d:Option Nat):aL (aC Tryz.prog) 247 args st d=sA (aC Tryz.prog) 247 (cC (args.map (fK st))) (decide (∀x∈args,Flat x)) st d:=lF _ _ _ _ _
theorem u6:Flat (.agg [.v (.slice none 0 0)]):=.agg _ (cV (.v _))
theorem vD (e:Int):Flat (AY e):=.eN _ (bH u6 (.v _))
def stA (o:Option (List Node)):AV :=
 match o with
 | none=>AY 21
 | some r=>.eN [.agg (cX ⟨r⟩),.v (.int .i64 0)]
theorem LJ (o:Option (List Node)):Flat (stA o):=by
 cases o with
 | none=>exact vD _
 | some r=>exact .eN _ (bH (nC _) (.v _))
noncomputable def raO (ns:List Node) (i:Int):Option (List Node):=DK 1 2 (path ns i) ns
noncomputable def coO (ns:List Node) (i:Int):Option (List Node):=DK 2 1 (Gd ns i ns.length) ns
noncomputable def J8 (ns:List Node) (i:Int):AV:=if 0≤i∧i<ns.length then stA (raO ns i) else AY 10
noncomputable def J9 (ns:List Node) (i:Int):AV:=if 0≤i∧i<ns.length then stA (coO ns i) else AY 10
theorem Ux {ns:List Node} (hu:iD ns) {i:Int}:∀x∈path ns i,0≤x∧x<ns.length:=fun x hx=>vB hu hx
theorem YC (ns:List Node) (i:Int):∀x∈Gd ns i ns.length,0≤x∧x<ns.length:=fun x hx=>((XU ns i x _).1 hx).1
theorem aOE (ns:List Node) (hu:iD ns) (hn:(ns.length:Int)<1000000) (i:Int):aC Tryz.prog 236 [.agg (cX ⟨ns⟩),.v (.int .i64 i)]=some (J8 ns i):=by
 rw[cL Tryz.func236 rfl aJL rfl];unfold J8;by_cases hm:0≤i∧i<ns.length
 ·rw[if_pos hm];have hd:(decide (0≤i) && decide (i<ns.length))=true:=by simp[hm.1,hm.2]
  have h45:=k76 ns hu hn i hm.1 hm.2
  have hpl:=As hu i
  have hc:=aJJ ns (by omega) hn (path ns i) (by omega) (Ux hu) 1 2
  unfold raO;cases ho:DK 1 2 (path ns i) ns with
  | none =>
    rw[ho] at hc;have hK:=fun (fl:Bool) (st:St) (d:Option Nat)=>aJE (fl:=fl) (st:=st) (d:=d) hc
    simp only[ZZ,seval,RV,hd,h45,aBK,hK,eB];exact dO rfl (by simp only[bV,ZZ,seval];rfl) (by simp only[bV,EV,seval]<;>rfl) (by simp only[EV,seval]<;>rfl) (by simp only[EV,seval]<;>rfl)
  | some r =>
    rw[ho] at hc;have hK:=fun (fl:Bool) (st:St) (d:Nat)=>aJD (fl:=fl) (st:=st) (d:=d) hc (Wd r)
    simp only[ZZ,seval,RV,hd,h45,aBK,hK,eB];exact dO rfl (by simp only[bV,ZZ,seval];rfl) (by simp only[bV,EV,seval]<;>rfl) (by simp only[EV,seval]<;>rfl) (by simp only[EV,seval]<;>rfl)
 ·rw[if_neg hm];have hd:(decide (0≤i) && decide (i<ns.length))=false:=by rw[← Bool.not_eq_true];simpa using hm
  simp only[ZZ,seval,RV,hd];exact dO rfl (by simp only[bV,ZZ,seval];rfl) (by simp only[bV,EV,seval]<;>rfl) (by simp only[EV,seval]<;>rfl) (by simp only[EV,seval]<;>rfl)
theorem aOF (ns:List Node) (hu:iD ns) (hn:(ns.length:Int)<1000000) (i:Int):aC Tryz.prog 238 [.agg (cX ⟨ns⟩),.v (.int .i64 i)]=some (J9 ns i):=by
 rw[cL Tryz.func238 rfl aJM rfl];unfold J9;by_cases hm:0≤i∧i<ns.length
 ·rw[if_pos hm];have hd:(decide (0≤i) && decide (i<ns.length))=true:=by simp[hm.1,hm.2]
  have h36:=k64 ns hu hn i (SP hu hm.1 hm.2 _ hm.2)
  have hdl:=Uv ns i ns.length
  have hc:=aJJ ns (by omega) hn (Gd ns i ns.length) (by omega) (YC ns i) 2 1
  unfold coO;cases ho:DK 2 1 (Gd ns i ns.length) ns with
  | none =>
    rw[ho] at hc;have hK:=fun (fl:Bool) (st:St) (d:Option Nat)=>aJE (fl:=fl) (st:=st) (d:=d) hc
    simp only[ZZ,seval,RV,hd,h36,aBK,hK,eB];exact dO rfl (by simp only[bV,ZZ,seval];rfl) (by simp only[bV,EV,seval]<;>rfl) (by simp only[EV,seval]<;>rfl) (by simp only[EV,seval]<;>rfl)
  | some r =>
    rw[ho] at hc;have hK:=fun (fl:Bool) (st:St) (d:Nat)=>aJD (fl:=fl) (st:=st) (d:=d) hc (Wd r)
    simp only[ZZ,seval,RV,hd,h36,aBK,hK,eB];exact dO rfl (by simp only[bV,ZZ,seval];rfl) (by simp only[bV,EV,seval]<;>rfl) (by simp only[EV,seval]<;>rfl) (by simp only[EV,seval]<;>rfl)
 ·rw[if_neg hm];have hd:(decide (0≤i) && decide (i<ns.length))=false:=by rw[← Bool.not_eq_true];simpa using hm
  simp only[ZZ,seval,RV,hd];exact dO rfl (by simp only[bV,ZZ,seval];rfl) (by simp only[bV,EV,seval]<;>rfl) (by simp only[EV,seval]<;>rfl) (by simp only[EV,seval]<;>rfl)
theorem LK (ns:List Node) (i:Int):Flat (J8 ns i):=by unfold J8;split;exact LJ _;exact vD _
theorem Wg (ns:List Node) (i:Int):Flat (J9 ns i):=by unfold J9;split;exact LJ _;exact vD _
theorem aJN (ns:List Node) (hu:iD ns) (hn:(ns.length:Int)<1000000) (i:Int) (st:St) (d:Option Nat):aL (aC Tryz.prog) 236 [.agg (cX ⟨ns⟩),.v (.int .i64 i)] st d=some { dst:=d,val:=J8 ns i }:=bK (bH (nC _) (.v _)) (aOE ns hu hn i) (LK ns i)
theorem aJO (ns:List Node) (hu:iD ns) (hn:(ns.length:Int)<1000000) (i:Int) (st:St) (d:Option Nat):aL (aC Tryz.prog) 238 [.agg (cX ⟨ns⟩),.v (.int .i64 i)] st d=some { dst:=d,val:=J9 ns i }:=bK (bH (nC _) (.v _)) (aOF ns hu hn i) (Wg ns i)
end Go.Ab.Tryz
namespace Go.Ab.Tryz
open Classical Go.Proofs Go.Ab
end Go.Ab.Tryz
namespace Go.Ab.Tryz
open Classical Go.Proofs Go.Ab
theorem u7 (ns:List Node) (hn:(ns.length:Int)<1000000) (i:Int):(∃e,J8 ns i=.eN [.agg [.v (.slice none 0 0)],.v (.int .i64 e)])∨∃r:List Node,J8 ns i=.eN [.agg (cX ⟨r⟩),.v (.int .i64 0)]∧(r.length:Int)<1000000:=by
 unfold J8;split
 ·cases h:raO ns i with
  | none=>exact .inl ⟨21,rfl⟩
  | some r=>exact .inr ⟨r,rfl,by rw[FO _ _ _ h];exact hn⟩
 ·exact .inl ⟨10,rfl⟩
theorem DL (ns:List Node) (hn:(ns.length:Int)<1000000) (i:Int):(∃e,J9 ns i=.eN [.agg [.v (.slice none 0 0)],.v (.int .i64 e)])∨∃r:List Node,J9 ns i=.eN [.agg (cX ⟨r⟩),.v (.int .i64 0)]∧(r.length:Int)<1000000:=by
 unfold J9;split
 ·cases h:coO ns i with
  | none=>exact .inl ⟨21,rfl⟩
  | some r=>exact .inr ⟨r,rfl,by rw[FO _ _ _ h];exact hn⟩
 ·exact .inl ⟨10,rfl⟩
def pay (ns:List Node) (x:Int):cK:=(nd ns x).block.iQ
noncomputable def yY (ns:List Node) (p:List Int):Nat→Option Nat
 | 0=>none
 | n+1=>if pay ns (it p ((p.length-(n+1):Nat):Int))=dL then yY ns p n else some (p.length-(n+1))
noncomputable def Gw (ns:List Node) (p:List Int) (h:cK):Nat→Option Nat
 | 0=>none
 | n+1=>if pay ns (it p (n:Int))=h then some n else Gw ns p h n
noncomputable def oY (ns:List Node) (i:Int) (h:cK):Int × Int :=
 if path ns i=[] then (-1,-1)
 else if h=dL then
  match yY ns (path ns i) (path ns i).length with
  | none=>(-1,i)
  | some k=>(if k=0 then -1 else it (path ns i) ((k:Int)-1),it (path ns i) k)
 else
  match Gw ns (path ns i) h ((path ns i).length-1) with
  | none=>(-1,i)
  | some k=>(it (path ns i) k,it (path ns i) ((k:Int)+1))
noncomputable def reA (ns:List Node) (i:Int) (h:cK):AV:=.eN [.v (.int .i64 (oY ns i h).1),.v (.int .i64 (oY ns i h).2)]
theorem DM {ns:List Node} {p:List Int}:∀(n k:Nat),n≤p.length→yY ns p n=some k→k<p.length
 | 0,k,_,h=>by simp[yY] at h
 | n+1,k,hn,h=>by
   simp only[yY] at h;split at h
   ·exact DM n k (by omega) h
   ·simp at h;omega
theorem LM {ns:List Node} {p:List Int} {h:cK}:∀(n k:Nat),Gw ns p h n=some k→k<n
 | 0,k,hk=>by simp[Gw] at hk
 | n+1,k,hk=>by
   simp only[Gw] at hk;split at hk
   ·simp at hk;omega
   ·have:=LM n k hk;omega
theorem SX {ns:List Node} {i:Int} {h:cK} (hp:path ns i=[]):oY ns i h=(-1,-1):=if_pos hp
theorem aFE {ns:List Node} {i j:Int} (i0:0≤i) (i1:i<ns.length) (j0:0≤j) (y:Node):nd (ns.set i.toNat y) j=if j=i then y else nd ns j:=by
 unfold nd;rw[List.getD_eq_getElem?_getD,List.getD_eq_getElem?_getD];by_cases h:j=i
 ·subst h;have:j.toNat<ns.length:=by omega
  simp[this]
 ·rw[if_neg h,List.getElem?_set_ne (by omega)]
theorem LN {to never:Int} (gW:to≠never):∀(l:List Int) (ns r:List Node),(∀x∈l,0≤x∧x<ns.length)→DK to never l ns=some r →
 (∀x∈l,(nd ns x).status≠never)∧r.length=ns.length∧∀j:Int,0≤j→j<ns.length→nd r j=if j∈l then Wf (nd ns j) to else nd ns j
 | [],ns,r,_,h=>by
   simp only[DK,Option.some.injEq] at h;subst h;exact⟨by simp,rfl,by simp⟩
 | i :: l,ns,r,hl,h=>by
   simp only[DK] at h;split at h
   ·cases h
   ·rename_i hs;obtain⟨i0,i1⟩:=hl i (by simp)
    obtain⟨h1,h2,h3⟩:=LN gW l (setAt ns i to) r (fun x hx=>by rw[Co];exact hl x (by simp[hx])) h
    rw[Co] at h2 h3;have hnd:∀j:Int,0≤j→nd (setAt ns i to) j=if j=i then Wf (nd ns i) to else nd ns j:=fun j j0=>aFE i0 i1 j0 _
    refine⟨fun x hx=>?_,h2,fun j j0 j1=>?_⟩
    ·rcases List.mem_cons.1 hx with rfl|hx
     ·exact hs
     ·by_cases hxi:x=i
      ·subst hxi;exact hs
      ·have:=h1 x hx
       rw[hnd x (hl x (by simp[hx])).1,if_neg hxi] at this
       exact this
    ·rw[h3 j j0 j1,hnd j j0];by_cases hji:j=i
     ·subst hji;simp only[if_true,List.mem_cons,true_or];split<;>rfl
     ·simp[hji]
structure SY (a b:List Node):Prop where
 len:a.length=b.length
 up:∀j:Int,0≤j→j<a.length→(nd a j).up=(nd b j).up
theorem SY.aOI {a b:List Node} (h:SY a b) (hu:iD a):iD b:=fun i i0 i1=>by rw[← h.up i (by omega) (by rw[h.len];exact i1)];exact hu i i0 (by rw[h.len];exact i1)
structure Chd (ns r:List Node) (l:List Int) (to:Int):Prop where
 len:r.length=ns.length
 at_:∀j:Int,0≤j→j<ns.length→nd r j=if j∈l then Wf (nd ns j) to else nd ns j
theorem Chd.su {ns r:List Node} {l:List Int} {to:Int} (h:Chd ns r l to):SY ns r where
 len:=h.len.symm
 up:=fun j j0 j1=>by rw[h.at_ j j0 j1];split<;>rfl
theorem Chd.block {ns r:List Node} {l:List Int} {to:Int} (h:Chd ns r l to) {j:Int} (j0:0≤j) (j1:j<ns.length):(nd r j).block=(nd ns j).block:=by
 rw[h.at_ j j0 j1];split<;>rfl
theorem Chd.upE {ns r:List Node} {l:List Int} {to:Int} (h:Chd ns r l to) {j:Int} (j0:0≤j) (j1:j<ns.length):(nd r j).up=(nd ns j).up:=by
 rw[h.at_ j j0 j1];split<;>rfl
theorem Chd.st {ns r:List Node} {l:List Int} {to:Int} (h:Chd ns r l to) {j:Int} (j0:0≤j) (j1:j<ns.length):(nd r j).status=if j∈l then to else (nd ns j).status:=by
 rw[h.at_ j j0 j1];split<;>rfl
structure aFF (ns r:List Node) (i:Int):Prop where
 c:Chd ns r (path ns i) 1
 ok:∀x∈path ns i,(nd ns x).status≠2
theorem u9 {ns r:List Node} (hu:iD ns) {i:Int} (h:raO ns i=some r):aFF ns r i:=by
 obtain⟨h1,h2,h3⟩:=LN (by decide) _ _ _ (Ux hu) h
 exact⟨⟨h2,h3⟩,h1⟩
structure aIG (ns r:List Node) (i:Int):Prop where
 c:Chd ns r (Gd ns i ns.length) 2
 ok:∀x∈Gd ns i ns.length,(nd ns x).status≠1
theorem DN {ns:List Node} (hu:iD ns):∀(n:Nat) (c:Int),c.toNat=n→0≤c→c<ns.length→∀k:Int,1≤k→k<(path ns c).length→(nd ns (it (path ns c) k)).up=it (path ns c) (k-1):=by
 intro n;induction n using Nat.strongRecOn with
 | _ n ih =>
   intro c hc c0 c1 k k0 k1;by_cases h:c=0
   ·subst h;rw[rE (by omega)] at k1
    simp at k1
    omega
   ·obtain⟨u0,u1⟩:=hu c (by omega) c1
    rw[rG hu (by omega) c1] at k1 ⊢
    simp at k1
    by_cases hk:k=(path ns (nd ns c).up).length
    ·rw[Cm hk,mG (by omega) (by omega),hk,u5 hu u0 (by omega)]
    ·rw[mG (by omega) (by omega),mG (by omega) (by omega)]
     exact ih (nd ns c).up.toNat (by omega) _ rfl u0 (by omega) k k0 (by omega)
theorem M5 {ns:List Node} (hu:iD ns):∀(n:Nat) (c:Int),c.toNat=n→0≤c→c<ns.length→it (path ns c) 0=0:=by
 intro n;induction n using Nat.strongRecOn with
 | _ n ih =>
   intro c hc c0 c1;by_cases h:c=0
   ·subst h;rw[rE (by omega)];rfl
   ·obtain⟨u0,u1⟩:=hu c (by omega) c1
    have:=FP hu u0 (by omega)
    rw[rG hu (by omega) c1,mG (Int.le_refl _) (by omega)]
    exact ih _ (by omega) _ rfl u0 (by omega)
theorem aOK (ns:List Node) (hu:iD ns) (hr:(nd ns 0).up=-1) (hn:(ns.length:Int)<1000000) (i:Int) (h:cK):aC Tryz.prog 237 [.agg (cX ⟨ns⟩),.v (.int .i64 i),.agg (aX h)]=some (reA ns i h):=by
 rw[cL Tryz.func237 rfl aJP rfl];unfold reA;by_cases hm:0≤i∧i<ns.length
 ·have h45:=k76 ns hu hn i hm.1 hm.2
  have hpl:=As hu i
  have hp0:=FP hu hm.1 hm.2
  have hin:=Ux hu (i:=i)
  have hpe:path ns i≠[]:=by intro h;rw[h] at hp0;simp at hp0
  have hq:(((path ns i).length:Int) == 0)=false:=by simp[hpe]
  have Wa:=fun k h h'=>DN hu _ i rfl hm.1 hm.2 k h h'
  have hi0:=M5 hu _ i rfl hm.1 hm.2
  unfold oY;rw[if_neg hpe];generalize path ns i=p at h45 hpl hp0 hin hq Wa hi0
  by_cases hz:h=dL
  ·have hd:decide (h=dL)=true:=decide_eq_true hz
   rw[if_pos hz];simp only[ZZ,seval,h45,hq,hd];refine lV (fun n st=>∃k:Nat,(st.env 1=.v (.int .i64 i)∧st.env 3=.ptr 3 0 0∧st.heap 3 0=some (.cells (cX ⟨ns⟩))∧st.env 8=.own 13 0∧st.heap 13 0=some (.row 3 1 p.length (aJ p))∧st.env 9=.v (.int .i64 k))∧yY ns p p.length=yY ns p (p.length-k)∧k≤p.length∧n=p.length-k)
    (fun e st=>(e=.ret∧∃k,yY ns p p.length=some k∧st.env 6=.v (.int .i64 (if k=0 then -1 else it p ((k:Int)-1)))∧st.env 7=.v (.int .i64 (it p k)))∨(e=.exit 0∧yY ns p p.length=none∧st.env 1=.v (.int .i64 i))) p.length ?step ?start ?rest
   case step =>
    rintro n st ⟨k,hI,hf,hk,Iq⟩
    by_cases bA:(k:Int)<p.length
    ·have q0:(0:Int)≤k:=by omega
     have hw:IntKind.i64.wrap ((k:Int)+1)=((k+1:Nat):Int):=by rw[Gt _ (by omega) (by omega)];omega
     obtain⟨x0,x1⟩:=hin _ (Ee q0 bA)
     obtain⟨m,hm'⟩:∃m,p.length-k=m+1:=⟨p.length-k-1,by omega⟩
     rw[hm'] at hf;simp only[yY] at hf;rw[show p.length-(m+1)=k by omega] at hf
     by_cases hpz:pay ns (it p k)=dL
     ·rw[if_pos hpz] at hf;have hd2:decide ((nd ns (it p k)).block.iQ=dL)=true:=decide_eq_true hpz
      apply oN (p.length-(k+1))
      ·simp only[ZZ,seval,hI,bA,q0,x0,x1,hd2,hw];rfl
      ·exact⟨k+1,by simp only[EV,seval,hI],by rw[hf,show p.length-(k+1)=m by omega],by omega,rfl⟩
     ·rw[if_neg hpz] at hf;have hd2:decide ((nd ns (it p k)).block.iQ=dL)=false:=decide_eq_false hpz
      have hupk:(nd ns (it p k)).up=if k=0 then -1 else it p ((k:Int)-1):=by
       by_cases uQ:k=0
       ·rw[if_pos uQ,show ((k:Int))=0 by omega,hi0,hr]
       ·rw[if_neg uQ,Wa k (by omega) bA]
      apply oT (.ret)
      ·simp only[ZZ,seval,hI,bA,q0,x0,x1,hd2];rfl
      ·exact .inl ⟨rfl,k,hf,by rw[← hupk];simp only[EV,seval],by simp only[EV,seval]⟩
    ·obtain rfl:k=p.length:=by omega
     rw[Nat.sub_self] at hf;apply oT (.exit 0)
     ·simp only[ZZ,seval,hI,bA];rfl
     ·exact .inr ⟨rfl,hf,by simp only[EV,seval,hI]⟩
   case start=>exact⟨0,by simp only[EV,seval]<;>rfl,rfl,by omega,rfl⟩
   case rest =>
    rintro e st (⟨rfl,k,hf,h6,h7⟩|⟨rfl,hf,h1⟩)
    ·rw[hf];simp only[ZZ,seval];exact dO rfl (by simp only[bV,EV,seval,h6]<;>rfl) (by simp only[bV,EV,seval,h7]<;>rfl) (by simp only[EV,seval]<;>rfl) (by simp only[EV,seval]<;>rfl)
    ·rw[hf];simp only[ZZ,seval,h1];exact dO rfl (by simp only[bV,EV,seval]<;>rfl) (by simp only[bV,EV,seval]<;>rfl) (by simp only[EV,seval]<;>rfl) (by simp only[EV,seval]<;>rfl)
  ·have hd:decide (h=dL)=false:=decide_eq_false hz
   have hw0:IntKind.i64.wrap ((p.length:Int)-2)=(p.length:Int)-2:=Gt _ (by omega) (by omega)
   rw[if_neg hz];simp only[ZZ,seval,h45,hq,hd,hw0];refine lV (fun n st=>∃m:Nat,(st.env 1=.v (.int .i64 i)∧st.env 3=.ptr 3 0 0∧st.heap 3 0=some (.cells (cX ⟨ns⟩))∧st.env 5=.ptr 5 0 0∧st.heap 5 0=some (.cells (aX h))∧st.env 8=.own 13 0∧st.heap 13 0=some (.row 3 1 p.length (aJ p))∧st.env 10=.v (.int .i64 ((m:Int)-1)))∧Gw ns p h (p.length-1)=Gw ns p h m∧m≤p.length-1∧n=m)
    (fun e st=>(e=.ret∧∃k,Gw ns p h (p.length-1)=some k∧st.env 6=.v (.int .i64 (it p k))∧st.env 7=.v (.int .i64 (it p ((k:Int)+1))))∨(e=.exit 2∧Gw ns p h (p.length-1)=none∧st.env 1=.v (.int .i64 i))) (p.length-1) ?step ?start ?rest
   case step =>
    rintro n st ⟨m,hI,hf,hm',Iq⟩
    by_cases bA:(0:Int)≤(m:Int)-1
    ·obtain⟨k,rfl⟩:∃k,m=k+1:=⟨m-1,by omega⟩
     have e1:((k+1:Nat):Int)-1=k:=by omega
     rw[e1] at hI bA;have k1:(k:Int)<p.length:=by omega
     have hw:IntKind.i64.wrap ((k:Int)-1)=(k:Int)-1:=Gt _ (by omega) (by omega)
     obtain⟨x0,x1⟩:=hin _ (Ee bA k1)
     simp only[Gw] at hf;by_cases hpz:pay ns (it p k)=h
     ·rw[if_pos hpz] at hf;have hd2:decide ((nd ns (it p k)).block.iQ=h)=true:=decide_eq_true hpz
      have M6:IntKind.i64.wrap ((k:Int)+1)=(k:Int)+1:=Gt _ (by omega) (by omega)
      have r0:(0:Int)≤(k:Int)+1:=by omega
      have r1:(k:Int)+1<p.length:=by omega
      apply oT (.ret)
      ·simp only[ZZ,seval,hI,bA,k1,x0,x1,hd2,M6,r0,r1];rfl
      ·exact .inl ⟨rfl,k,hf,by simp only[EV,seval],by simp only[EV,seval]⟩
     ·rw[if_neg hpz] at hf;have hd2:decide ((nd ns (it p k)).block.iQ=h)=false:=decide_eq_false hpz
      apply oN (k)
      ·simp only[ZZ,seval,hI,bA,k1,x0,x1,hd2,hw];rfl
      ·exact⟨k,by simp only[EV,seval,hI],hf,by omega,rfl⟩
    ·obtain rfl:m=0:=by omega
     apply oT (.exit 2)
     ·simp only[ZZ,seval,hI,bA];rfl
     ·exact .inr ⟨rfl,hf,by simp only[EV,seval,hI]⟩
   case start =>
    have hs:(p.length:Int)-2=((p.length-1:Nat):Int)-1:=by omega
    exact⟨p.length-1,by simp only[EV,seval,hs],rfl,by omega,rfl⟩
   case rest =>
    rintro e st (⟨rfl,k,hf,h6,h7⟩|⟨rfl,hf,h1⟩)
    ·rw[hf];simp only[ZZ,seval];exact dO rfl (by simp only[bV,EV,seval,h6]<;>rfl) (by simp only[bV,EV,seval,h7]<;>rfl) (by simp only[EV,seval]<;>rfl) (by simp only[EV,seval]<;>rfl)
    ·rw[hf];simp only[ZZ,seval,h1];exact dO rfl (by simp only[bV,EV,seval]<;>rfl) (by simp only[bV,EV,seval]<;>rfl) (by simp only[EV,seval]<;>rfl) (by simp only[EV,seval]<;>rfl)
 ·rw[SX (yH hm)];have h45:=l8 ns i hm
  simp only[ZZ,seval,h45];exact dO rfl (by simp only[bV,EV,seval]<;>rfl) (by simp only[bV,EV,seval]<;>rfl) (by simp only[EV,seval]<;>rfl) (by simp only[EV,seval]<;>rfl)
theorem M7 (ns:List Node) (i:Int) (h:cK):Flat (reA ns i h):=.eN _ (bH (.v _) (.v _))
theorem aOL (ns:List Node) (hu:iD ns) (hr:(nd ns 0).up=-1) (hn:(ns.length:Int)<1000000) (i:Int) (h:cK) (st:St) (d:Option Nat):aL (aC Tryz.prog) 237 [.agg (cX ⟨ns⟩),.v (.int .i64 i),.agg (aX h)] st d=some { dst:=d,val:=.eN [.v (.int .i64 (oY ns i h).1),.v (.int .i64 (oY ns i h).2)]}:=bK (nD (nC _) (.v _) (qK _)) (aOK ns hu hr hn i h) (M7 ns i h)
theorem SZ {ns:List Node} (hu:iD ns) (hr:(nd ns 0).up=-1) {i:Int} (i0:0≤i) (i1:i<ns.length) (h:cK):(oY ns i h).2∈path ns i∧((oY ns i h).1<0∨((oY ns i h).1∈path ns i∧(nd ns (oY ns i h).2).up=(oY ns i h).1)):=by
 have hp0:=FP hu i0 i1
 have hpe:path ns i≠[]:=by intro h;rw[h] at hp0;simp at hp0
 have DO:=yG hu i0 i1
 have Wa:=fun k h h'=>DN hu _ i rfl i0 i1 k h h'
 unfold oY;rw[if_neg hpe];by_cases hz:h=dL
 ·rw[if_pos hz];cases hf:yY ns (path ns i) (path ns i).length with
  | none=>exact⟨DO,.inl (by simp)⟩
  | some k =>
    have hk:=DM _ _ (Nat.le_refl _) hf
    simp only
    refine⟨Ee (by omega) (by omega), ?_⟩
    by_cases uQ:k=0
    ·rw[if_pos uQ];exact .inl (by omega)
    ·rw[if_neg uQ];exact .inr ⟨Ee (by omega) (by omega),Wa k (by omega) (by omega)⟩
 ·rw[if_neg hz];cases hf:Gw ns (path ns i) h ((path ns i).length-1) with
  | none=>exact⟨DO,.inl (by simp)⟩
  | some k =>
    have hk:=LM _ _ hf
    simp only
    refine⟨Ee (by omega) (by omega),.inr ⟨Ee (by omega) (by omega), ?_⟩⟩
    have:=Wa ((k:Int)+1) (by omega) (by omega)
    rw[this];congr 1
    omega
def Wh (kv:AV) (l:List Int):Prop:=kv=.sl l.length (aJ l)∨(l=[]∧kv=.v (.slice none 0 0))
theorem Wh.view {kv:AV} {l:List Int} (h:Wh kv l) (st:St):aR st kv=some (l.length,aJ l):=by
 rcases h with rfl|⟨rfl,rfl⟩<;>rfl
theorem Wh.idx {kv:AV} {l:List Int} (h:Wh kv l) (st:St) {k:IntKind} {i:Int} (h0:0≤i) (h1:i<l.length):bF Tryz.prog st 22 kv (.v (.int k i))=some (.ip (pV (it l i)) 0):=by
 rcases h with rfl|⟨rfl,rfl⟩
 ·exact aEq st h0 h1
 ·simp at h1;omega
theorem Wh.flat {kv:AV} {l:List Int} (h:Wh kv l):Flat kv:=by
 rcases h with rfl|⟨rfl,rfl⟩
 ·exact Qi l
 ·exact .v _
def YD (ns:List Node) (c:Int) (l:List Int):Prop:=∃k∈l,At ns c k=true
noncomputable def M8 (ns:List Node) (i:Int) (h:cK) (l:List Int):AV :=
 if YD ns (oY ns i h).2 l then AY 21
 else if 0≤(oY ns i h).1 then
  match raO ns (oY ns i h).1 with
  | none=>AY 21
  | some r=>J9 r (oY ns i h).2
 else J9 ns (oY ns i h).2
noncomputable def TA (ns:List Node) (i:Int) (v:fM) (l:List Int):AV :=
 if ¬(0≤i∧i<ns.length) then AY 10
 else if v.kind=1 then J8 ns i
 else if v.kind=2 then M8 ns i v.dQ l
 else if v.kind=3∨v.kind=4 then .eN [.agg (cX ⟨ns⟩),.v (.int .i64 0)]
 else AY 2
theorem v7 (ns:List Node) (i:Int) (h:cK) (l:List Int):Flat (M8 ns i h l):=by
 unfold M8;split
 ·exact vD _
 ·split
  ·split
   ·exact vD _
   ·exact Wg _ _
  ·exact Wg _ _
theorem v8 (ns:List Node) (i:Int) (v:fM) (l:List Int):Flat (TA ns i v l):=by
 unfold TA;split
 ·exact vD _
 ·split
  ·exact LK _ _
  ·split
   ·exact v7 _ _ _ _
   ·split
    ·exact .eN _ (bH (nC _) (.v _))
    ·exact vD _
theorem aOM (ns:List Node) (hu:iD ns) (hr:(nd ns 0).up=-1) (hn:(ns.length:Int)<1000000) (i:Int) (v:fM) (l:List Int) (hl:(l.length:Int)<1000000) {kv:AV} (hkv:Wh kv l) :
 aC Tryz.prog 222 [.agg (cX ⟨ns⟩),.v (.int .i64 i),.agg (bZ v),kv]=some (TA ns i v l):=by
 rw[cL Tryz.func222 rfl aJR (by rcases hkv with rfl|⟨rfl,rfl⟩<;>rfl)]
 have h86:=RV ns i
 unfold TA;by_cases hm:0≤i∧i<ns.length
 ·obtain⟨i0,i1⟩:=hm
  have hd:(decide (0≤i) && decide (i<(ns.length:Int)))=true:=by simp[i0,i1]
  rw[hd] at h86;rw[if_neg (by simp[i0,i1])]
  by_cases h1:v.kind=1
  ·rw[if_pos h1];have b1:(v.kind == 1)=true:=by simp[h1]
   have h96:=aJN ns hu hn i
   rcases u7 ns hn i with ⟨e,he⟩|⟨q,he,_⟩
   all_goals
    rw[he] at h96;rw[he];simp only[ZZ,seval,h86,b1,h96,eB];exact dO rfl (by simp only[bV,ZZ,seval];rfl) (by simp only[bV,EV,seval]<;>rfl) (by simp only[EV,seval]<;>rfl) (by simp only[EV,seval]<;>rfl)
  ·rw[if_neg h1];have b1:(v.kind == 1)=false:=by simp[h1]
   by_cases h2:v.kind=2
   ·rw[if_pos h2];have b2:(v.kind == 2)=true:=by simp[h2]
    have b3:(v.kind == 3)=false:=by simp[h2]
    have b4:(v.kind == 4)=false:=by simp[h2]
    have hRe:=aOL ns hu hr hn i v.dQ
    have hfact:=SZ hu hr i0 i1 v.dQ
    have hv:=hkv.view
    have hix:=fun st (k:IntKind) (i:Int) h0 h1=>hkv.idx st (k:=k) (i:=i) h0 h1
    have h46:=Nf ns hu hn
    unfold M8;obtain⟨a,ha⟩:∃a,(oY ns i v.dQ).1=a:=⟨_,rfl⟩
    obtain⟨c,hc⟩:∃c,(oY ns i v.dQ).2=c:=⟨_,rfl⟩
    rw[ha,hc] at hRe hfact;rw[ha,hc];simp only[ZZ,seval,h86,b1,b2,b3,b4,hRe,eB];refine lV (fun n st=>∃k:Nat,(st.env 3=kv∧st.env 4=.ptr 4 0 0∧st.heap 4 0=some (.cells (cX ⟨ns⟩))∧st.env 8=.ptr 8 0 0∧st.heap 8 0=some (.cells [.v (.slice none 0 0)])∧st.env 10=.v (.int .i64 a)∧st.env 11=.v (.int .i64 c)∧st.env 12=.v (.int .i64 k))∧(∀j:Int,0≤j→j<k→At ns c (it l j)=false)∧k≤l.length∧n=l.length-k)
     (fun e st=>(e=.ret∧YD ns c l∧st.env 8=.ptr 8 0 0∧st.heap 8 0=some (.cells [.v (.slice none 0 0)])∧st.env 9=.v (.int .i64 21))∨(e=.exit 1∧¬YD ns c l∧st.env 4=.ptr 4 0 0∧st.heap 4 0=some (.cells (cX ⟨ns⟩))∧st.env 8=.ptr 8 0 0∧st.heap 8 0=some (.cells [.v (.slice none 0 0)])∧st.env 10=.v (.int .i64 a)∧st.env 11=.v (.int .i64 c))) l.length ?step ?start ?rest
    case step =>
     rintro n st ⟨k,hI,hj,hk,Iq⟩
     by_cases bA:(k:Int)<l.length
     ·have q0:(0:Int)≤k:=by omega
      have hw:IntKind.i64.wrap ((k:Int)+1)=((k+1:Nat):Int):=by rw[Gt _ (by omega) (by omega)];omega
      cases hA:At ns c (it l k)
      ·apply oN (l.length-(k+1))
       ·simp only[ZZ,seval,hI,bA,q0,hv,hix,h46,hA,hw];rfl
       ·exact⟨k+1,by simp only[EV,seval,hI],fun j j0 j1=>by
        by_cases hjk:j<k
        ·exact hj j j0 hjk
        ·rw[show j=(k:Int) by omega];exact hA,by omega,rfl⟩
      ·apply oT (.ret)
       ·simp only[ZZ,seval,hI,bA,q0,hv,hix,h46,hA];rfl
       ·exact .inl ⟨rfl,⟨_,Ee q0 bA,hA⟩,by simp only[EV,seval,hI],by simp only[EV,seval,hI],by simp only[EV,seval,hI]⟩
     ·obtain rfl:k=l.length:=by omega
      have hno:¬YD ns c l:=by
       rintro⟨x,hx,hxa⟩
       obtain⟨j,M9,rfl⟩:=List.getElem_of_mem hx
       have:=hj j (by omega) (by omega)
       rw[show it l (j:Int)=l[j] by simp[it,M9]] at this
       rw[this] at hxa;cases hxa
      apply oT (.exit 1)
      ·simp only[ZZ,seval,hI,hv,bA];rfl
      ·exact .inr ⟨rfl,hno,by simp only[EV,seval,hI]⟩
    case start=>exact⟨0,by simp only[EV,seval],fun j _ _=>by omega,by omega,by omega⟩
    case rest =>
     rintro e st (⟨rfl,hk,hI⟩|⟨rfl,hk,hI⟩)
     ·rw[if_pos hk];simp only[ZZ,seval];exact dO rfl (by simp only[bV,ZZ,seval,hI];rfl) (by simp only[bV,EV,seval,hI]<;>rfl) (by simp only[EV,seval]<;>rfl) (by simp only[EV,seval]<;>rfl)
     ·rw[if_neg hk];by_cases h0:0≤a
      ·rw[if_pos h0];have nU:a∈path ns i:=by
        rcases hfact.2 with h|h
        ·omega
        ·exact h.1
       obtain⟨_,a1⟩:=Ux hu a nU
       have h96:=aJN ns hu hn a
       rw[show J8 ns a=stA (raO ns a) from if_pos ⟨h0,a1⟩] at h96;cases ho:raO ns a with
       | none =>
         rw[ho] at h96;simp only[stA,AY] at h96;simp only[ZZ,seval,hI,h0,h96,eB];exact dO rfl (by simp only[bV,ZZ,seval,hI];rfl) (by simp only[bV,EV,seval,hI]<;>rfl) (by simp only[EV,seval]<;>rfl) (by simp only[EV,seval]<;>rfl)
       | some r =>
         rw[ho] at h96;simp only[stA] at h96;have hR:=u9 hu ho
         have hu2:=hR.c.su.aOI hu
         have h97:=aJO r hu2 (by rw[hR.c.len];exact hn) c
         rcases DL r (by rw[hR.c.len];exact hn) c with ⟨e,he⟩|⟨q,he,_⟩
         all_goals
          rw[he] at h97;simp only[he];simp only[ZZ,seval,hI,h0,h96,h97,eB];exact dO rfl (by simp only[bV,ZZ,seval,hI];rfl) (by simp only[bV,EV,seval,hI]<;>rfl) (by simp only[EV,seval]<;>rfl) (by simp only[EV,seval]<;>rfl)
      ·rw[if_neg h0];have h97:=aJO ns hu hn c
       rcases DL ns hn c with ⟨e,he⟩|⟨q,he,_⟩
       all_goals
        rw[he] at h97;rw[he];simp only[ZZ,seval,hI,h0,h97,eB];exact dO rfl (by simp only[bV,ZZ,seval,hI];rfl) (by simp only[bV,EV,seval,hI]<;>rfl) (by simp only[EV,seval]<;>rfl) (by simp only[EV,seval]<;>rfl)
   ·rw[if_neg h2];have b2:(v.kind == 2)=false:=by simp[h2]
    by_cases h3:v.kind=3
    ·rw[if_pos (.inl h3)];have b3:(v.kind == 3)=true:=by simp[h3]
     simp only[ZZ,seval,h86,b1,b2,b3];exact dO rfl (by simp only[bV,ZZ,seval];rfl) (by simp only[bV,EV,seval]<;>rfl) (by simp only[EV,seval]<;>rfl) (by simp only[EV,seval]<;>rfl)
    ·have b3:(v.kind == 3)=false:=by simp[h3]
     by_cases h4:v.kind=4
     ·rw[if_pos (.inr h4)];have b4:(v.kind == 4)=true:=by simp[h4]
      simp only[ZZ,seval,h86,b1,b2,b3,b4];exact dO rfl (by simp only[bV,ZZ,seval];rfl) (by simp only[bV,EV,seval]<;>rfl) (by simp only[EV,seval]<;>rfl) (by simp only[EV,seval]<;>rfl)
     ·rw[if_neg (by omega)]
      have b4:(v.kind == 4)=false:=by simp[h4]
      simp only[ZZ,seval,h86,b1,b2,b3,b4];exact dO rfl (by simp only[bV,ZZ,seval];rfl) (by simp only[bV,EV,seval]<;>rfl) (by simp only[EV,seval]<;>rfl) (by simp only[EV,seval]<;>rfl)
 ·rw[if_pos hm];have hd:(decide (0≤i) && decide (i<(ns.length:Int)))=false:=by
   by_cases h0:0≤i
   ·have:¬i<ns.length:=fun h=>hm ⟨h0,h⟩
    simp[this]
   ·simp[h0]
  rw[hd] at h86;simp only[ZZ,seval,h86];exact dO rfl (by simp only[bV,ZZ,seval];rfl) (by simp only[bV,EV,seval]<;>rfl) (by simp only[EV,seval]<;>rfl) (by simp only[EV,seval]<;>rfl)
end Go.Ab.Tryz
