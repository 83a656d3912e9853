/-
  Part 10 of the proof: an evaluator of programs, its soundness, and what functions of this program compute.
-/
import Derived.Test.YtmcjkemalibacaaGreatK9
set_option linter.all false
set_option maxRecDepth 20000
set_option maxHeartbeats 40000000
namespace Go.Ab.Tryz
open Classical Go.Proofs Go.Ab
theorem q49 (args:List AV) (st:St) (d:Option Nat):aM (aB Tryz.prog) 49 args st d=uD (aB Tryz.prog) 49 (cP (args.map (fO st))) (decide (∀x∈args,Flat x)) st d:=jU _ _ _ _ _
theorem c49 (l:List Int) (a:Int) (hn:(l.length:Int)<1000000):aB Tryz.prog 49 [.sl l.length (aK l),.v (.int .i64 a)]=some (.v (.bool (decide (a∈l)))):=by
 rw[cL Tryz.func49 rfl aKp rfl];simp only[ZZ,seval];refine jV (fun n st=>∃i:Int,st.env 0=.sl l.length (aK l)∧st.env 1=.v (.int .i64 a)∧st.env 5=.v (.int .i64 i)∧0≤i∧i≤l.length∧n=(l.length-i).toNat∧∀j,0≤j→j<i→it l j≠a)
  (fun e st=>(e=.ret∧st.env 4=.v (.bool (decide (a∈l))))∨(e=.exit 0∧decide (a∈l)=false)) l.length ?step ?start ?rest
 case step =>
  rintro n st ⟨i,h0,h1,h5,i0,i1,Gk,hb⟩
  by_cases aY:i<l.length
  ·have hw:IntKind.i64.wrap (i+1)=i+1:=Gl _ (by omega) (by omega)
   obtain⟨hi,he⟩:=xP i0 aY
   by_cases hr:it l i=a
   ·have hm:decide (a∈l)=true:=by rw[decide_eq_true_eq,← hr,he];exact List.getElem_mem hi
    have hbq:(it l i == a)=true:=by simp[hr]
    apply oT (.ret)
    ·simp only[ZZ,seval,h0,h1,h5,aY,i0,hbq];rfl
    ·exact .inl ⟨rfl,by simp only[EV,seval,hm]⟩
   ·have hbq:(it l i == a)=false:=by simp[hr]
    apply oN ((l.length-(i+1)).toNat)
    ·simp only[ZZ,seval,h0,h1,h5,aY,i0,hbq,hw];rfl
    ·exact⟨i+1,by simp only[EV,seval,h0],by simp only[EV,seval,h1],(by simp only[EV,seval]),by omega,by omega,rfl,fun j j0 j1=>by
     rcases Int.lt_or_eq_of_le (show j≤i by omega) with h|rfl
     ·exact hb j j0 h
     ·exact hr⟩
  ·apply oT (.exit 0)
   ·simp only[ZZ,seval,h0,h1,h5,aY,i0];rfl
   ·exact .inr ⟨rfl,by
    rw[decide_eq_false_iff_not];intro hm;obtain⟨j,hj,rfl⟩:=List.getElem_of_mem hm
    exact hb j (by omega) (by omega) (by simp[it,hj])⟩
 case start=>exact⟨0,(by simp only[EV,seval]),(by simp only[EV,seval]),(by simp only[EV,seval]),by omega,by omega,by omega,fun j _ _=>by omega⟩
 case rest =>
  rintro e st (⟨rfl,h⟩|⟨rfl,h⟩)
  ·simp only[ZZ,seval];exact bQ rfl h (.v _)
  ·simp only[ZZ,seval];exact bQ rfl (by simp only[EV,seval,h]) (.v _)
theorem aKq (a:Int):aB Tryz.prog 49 [.v (.slice none 0 0),.v (.int .i64 a)]=some (.v (.bool false)):=by
 rw[cL Tryz.func49 rfl aKp rfl];simp only[ZZ,seval,He,Int.natCast_zero,Int.lt_irrefl,decide_false];exact bQ rfl (by simp only[EV,seval]) (.v _)
theorem k49 (l:List Int) (a:Int) (hn:(l.length:Int)<1000000) (fl:Bool) (st:St) (d:Option Nat):uD (aB Tryz.prog) 49 (some [.sl l.length (aK l),.v (.int .i64 a)]) fl st d=some { dst:=d,val:=.v (.bool (decide (a∈l)))}:=Rc (c49 l a hn)
theorem aPF (a:Int) (fl:Bool) (st:St) (d:Option Nat):uD (aB Tryz.prog) 49 (some [.v (.slice none 0 0),.v (.int .i64 a)]) fl st d=some { dst:=d,val:=.v (.bool false)}:=Rc (aKq a)
def gL (ns:List Node):Prop:=∀i:Int,0<i→i<ns.length→0≤(nd ns i).up∧(nd ns i).up<i
def Xb (ns:List Node):Nat→Int→List Int
 | 0,_=>[]
 | f+1,i=>if i=0 then [0] else Xb ns f (nd ns i).up++[i]
def path (ns:List Node) (i:Int):List Int:=if 0≤i∧i<ns.length then Xb ns (i.toNat+1) i else []
theorem Xc {ns:List Node} (h:gL ns):∀(f g:Nat) (i:Int),0≤i→i<ns.length→i.toNat<f→i.toNat<g→Xb ns f i=Xb ns g i
 | 0,_,i,_,_,h1,_=>by omega
 | f+1,0,i,_,_,_,h2=>by omega
 | f+1,g+1,i,i0,i1,h1,h2=>by
   simp only[Xb];by_cases hi:i=0
   ·rw[if_pos hi,if_pos hi]
   ·obtain⟨u0,u1⟩:=h i (by omega) i1
    rw[if_neg hi,if_neg hi,Xc h f g (nd ns i).up u0 (by omega) (by omega) (by omega)]
theorem oJ {ns:List Node} (h:0<ns.length):path ns 0=[0]:=by
 unfold path;rw[if_pos ⟨by omega,by omega⟩]
 rfl
theorem mX {ns:List Node} (h:gL ns) {i:Int} (i0:0<i) (i1:i<ns.length):path ns i=path ns (nd ns i).up++[i]:=by
 obtain⟨u0,u1⟩:=h i i0 i1
 unfold path;rw[if_pos ⟨by omega,i1⟩,if_pos ⟨u0,by omega⟩]
 show Xb ns (i.toNat+1) i=_
 rw[Xb,if_neg (by omega)]
 rw[Xc h i.toNat ((nd ns i).up.toNat+1) (nd ns i).up u0 (by omega) (by omega) (by omega)]
theorem yR {ns:List Node} {i:Int} (h:¬(0≤i∧i<ns.length)):path ns i=[]:=if_neg h
theorem Q2 {ns:List Node} (h:gL ns):∀(k:Nat) (i:Int),i.toNat=k→0≤i→i<ns.length→(path ns i).length≤i+1:=by
 intro k;induction k using Nat.strongRecOn with
 | _ k ih =>
   intro i hk i0 i1;by_cases hi:i=0
   ·subst hi;rw[oJ (by omega)];simp
   ·obtain⟨u0,u1⟩:=h i (by omega) i1
    rw[mX h (by omega) i1]
    have:=ih (nd ns i).up.toNat (by omega) _ rfl u0 (by omega)
    simp only[List.length_append,List.length_singleton];omega
theorem Bf {ns:List Node} (h:gL ns) (i:Int):((path ns i).length:Int)≤ns.length:=by
 by_cases hi:0≤i∧i<ns.length
 ·have:=Q2 h _ i rfl hi.1 hi.2;omega
 ·rw[yR hi];simp
theorem aPG (ns:List Node) (i:Int) (h:¬(0≤i∧i<ns.length)):aB Tryz.prog 76 [.agg (cJ ⟨ns⟩),.v (.int .i64 i)]=some (.v (.slice none 0 0)):=by
 rw[cL Tryz.func76 rfl aKr rfl];have hd:(decide (0≤i) && decide (i<ns.length))=false:=by
  rw[← Bool.not_eq_true];simpa using h
 simp only[ZZ,seval,TF,hd];exact bQ rfl (by simp only[EV,seval]) (.v _)
theorem c76 (ns:List Node) (hu:gL ns) (hn:(ns.length:Int)<1000000):∀(k:Nat) (i:Int),i.toNat=k→0≤i→i<ns.length→aB Tryz.prog 76 [.agg (cJ ⟨ns⟩),.v (.int .i64 i)]=some (.uniq 3 1 (path ns i).length (aK (path ns i))):=by
 intro k;induction k using Nat.strongRecOn with
 | _ k ih =>
   intro i hk i0 i1;have hd:(decide (0≤i) && decide (i<ns.length))=true:=by simp[i0,i1]
   rw[cL Tryz.func76 rfl aKr rfl];by_cases hi:i=0
   ·subst hi;simp only[ZZ,seval,TF,hd,i1,beq_self_eq_true];exact tU rfl (by simp only[EV,seval];rfl) (by simp only[EV,seval,oJ (show 0<ns.length by omega)];rfl) (gI _)
   ·obtain⟨u0,u1⟩:=hu i (by omega) i1
    have hq:(i == 0)=false:=by simp[hi]
    have hr:=ih (nd ns i).up.toNat (by omega) _ rfl u0 (by omega)
    have hc:∀(st:St) (d:Nat),aM (aB Tryz.prog) 76 [.agg (cJ ⟨ns⟩),.v (.int .i64 (nd ns i).up)] st (some d)=some { dst:=some d,val:=.own d (st.aT d),new:=some (d,[.row 3 1 (path ns (nd ns i).up).length (aK (path ns (nd ns i).up))])}:=fun st d=>jF (bE (lX _) (.v _)) hr
    have hl:((path ns (nd ns i).up).length:Int)<1000000:=by have:=Bf hu (nd ns i).up;omega
    simp only[ZZ,seval,TF,hd,hq,i0,i1,hc,hl];exact tU rfl (by simp only[EV,seval];rfl) (by simp only[EV,seval,mX hu (show 0<i by omega) i1]) (gI _)
theorem k76 (ns:List Node) (hu:gL ns) (hn:(ns.length:Int)<1000000) (i:Int) (i0:0≤i) (i1:i<ns.length) (st:St) (d:Nat):aM (aB Tryz.prog) 76 [.agg (cJ ⟨ns⟩),.v (.int .i64 i)] st (some d)=some { dst:=some d,val:=.own d (st.aT d),new:=some (d,[.row 3 1 (path ns i).length (aK (path ns i))])}:=jF (bE (lX _) (.v _)) (c76 ns hu hn _ i rfl i0 i1)
theorem C5 (ns:List Node) (i:Int) (h:¬(0≤i∧i<ns.length)) (st:St) (d:Option Nat):aM (aB Tryz.prog) 76 [.agg (cJ ⟨ns⟩),.v (.int .i64 i)] st d=some { dst:=d,val:=.v (.slice none 0 0)}:=bC (bE (lX _) (.v _)) (aPG ns i h) (.v _)
def tV (ns:List Node) (a b:Int):Bool:=decide (a∈path ns b)
theorem c47 (ns:List Node) (hu:gL ns) (hn:(ns.length:Int)<1000000) (a b:Int):aB Tryz.prog 47 [.agg (cJ ⟨ns⟩),.v (.int .i64 a),.v (.int .i64 b)]=some (.v (.bool (tV ns a b))):=by
 rw[cL Tryz.func47 rfl aPH rfl];by_cases hb:0≤b∧b<ns.length
 ·have hl:((path ns b).length:Int)<1000000:=by have:=Bf hu b;omega
  simp only[ZZ,seval,k76 ns hu hn b hb.1 hb.2,q49,k49,hl];exact bQ rfl (by simp only[EV,seval,tV]) (.v _)
 ·simp only[ZZ,seval,C5 ns b hb,q49,aPF];exact bQ rfl (by simp only[EV,seval,tV,yR hb,List.not_mem_nil,decide_false]) (.v _)
theorem Ns (ns:List Node) (hu:gL ns) (hn:(ns.length:Int)<1000000) (a b:Int) (st:St) (d:Option Nat):aM (aB Tryz.prog) 47 [.agg (cJ ⟨ns⟩),.v (.int .i64 a),.v (.int .i64 b)] st d=some { dst:=d,val:=.v (.bool (tV ns a b))}:=bC (lM (lX _) (.v _) (.v _)) (c47 ns hu hn a b) (.v _)
theorem aCv:Flat (.agg [.v (.slice none 0 0)]):=.agg _ (by simp;exact .v _)
theorem yS (x m:Int) (hm:0≤m∧m<9223372036854775808):0≤IntKind.i64.wrap ↑(BitVec.ofInt IntKind.i64.bits x &&& BitVec.ofInt IntKind.i64.bits m).toNat∧IntKind.i64.wrap ↑(BitVec.ofInt IntKind.i64.bits x &&& BitVec.ofInt IntKind.i64.bits m).toNat≤m:=by
 have h0:(BitVec.ofInt IntKind.i64.bits x &&& BitVec.ofInt IntKind.i64.bits m).toNat≤(BitVec.ofInt IntKind.i64.bits m).toNat:=by rw[BitVec.toNat_and];exact Nat.and_le_right
 have hb:IntKind.i64.bits=64:=rfl
 have h:(BitVec.ofInt IntKind.i64.bits (m:Int)).toNat=m.toNat:=by
  rw[BitVec.toNat_ofInt,hb];omega
 rw[h] at h0;rw[Gl _ (by omega) (by omega)]
 omega
theorem UB {i n:Int} (h:0≤i) (hn:0<n):0≤i.tdiv n∧i.tdiv n≤i:=by
 rw[Int.tdiv_eq_ediv_of_nonneg h];exact⟨Int.ediv_nonneg h (by omega),Int.ediv_le_self n h⟩
theorem cK {i n:Int} (h:0≤i) (hn:0<n):0≤i.tmod n∧i.tmod n<n:=by
 rw[Int.tmod_eq_emod_of_nonneg h];exact⟨Int.emod_nonneg i (by omega),Int.emod_lt_of_pos i hn⟩
theorem Bg {i:Int} (h:0≤i) (s:Nat):0≤i.fdiv (2 ^ s):=by
 have h2:(0:Int)≤2 ^ s:=Int.pow_nonneg (by decide)
 rw[Int.fdiv_eq_ediv_of_nonneg _ h2];exact Int.ediv_nonneg h h2
theorem aKs (l:List Int) (hl:(l.length:Int)≤9223372036854775807) (i:Int) (i0:0≤i) (i1:i<1000000):∃k:Int,aB Tryz.prog 145 [.sl l.length (aK l),.v (.int .i64 i)]=some (.v (.int .i64 k))∧0≤k∧k≤17777215:=by
 rw[cL Tryz.func145 rfl Q3 rfl];by_cases h:(l.length:Int)=0
 ·have hq:((l.length:Int) == 0)=true:=by simp[h]
  simp only[ZZ,seval,hq];obtain⟨b1,b2⟩:=yS i 65535 (by decide)
  exact⟨_,bQ rfl (by simp only[EV,seval]<;>rfl) (.v _),b1,by omega⟩
 ·have hq:((l.length:Int) == 0)=false:=by rw[beq_eq_false_iff_ne];exact h
  obtain⟨m1,m2⟩:=cK (n:=(l.length:Int)) i0 (by omega)
  obtain⟨d1,d2⟩:=UB (n:=(l.length:Int)) i0 (by omega)
  simp only[ZZ,seval,hq,h,m1,m2];obtain⟨b1,b2⟩:=yS (it l (i.tmod ↑l.length)) 16777215 (by decide)
  refine⟨_,bQ rfl (by simp only[EV,seval]<;>rfl) (.v _), ?_, ?_⟩
  all_goals
   rw[Gl (i.tdiv ↑l.length) (by omega) (by omega),Gl _ (by omega) (by omega)]
   omega
noncomputable def Kd (l:List Int) (i:Int):Int:=if h:((l.length:Int)≤9223372036854775807∧0≤i∧i<1000000) then Classical.choose (aKs l h.1 i h.2.1 h.2.2) else 0
theorem Hf (l:List Int) (hl:(l.length:Int)≤9223372036854775807) (i:Int) (i0:0≤i) (i1:i<1000000):aB Tryz.prog 145 [.sl l.length (aK l),.v (.int .i64 i)]=some (.v (.int .i64 (Kd l i)))∧0≤Kd l i∧Kd l i≤17777215:=by
 have h:((l.length:Int)≤9223372036854775807∧0≤i∧i<1000000):=⟨hl,i0,i1⟩
 unfold Kd;rw[dif_pos h];exact Classical.choose_spec (aKs l h.1 i h.2.1 h.2.2)
theorem Nt (l:List Int) (hl:(l.length:Int)≤9223372036854775807) (i:Int) (i0:0≤i) (i1:i<1000000) (st:St) (d:Option Nat):aM (aB Tryz.prog) 145 [.sl l.length (aK l),.v (.int .i64 i)] st d=some { dst:=d,val:=.v (.int .i64 (Kd l i))}:=bC (bE (Eo l) (.v _)) (Hf l hl i i0 i1).1 (.v _)
def mkRoot (n:Int):cN:=((dV.set 0 (IntKind.u8.wrap n)).set 1 (IntKind.u8.wrap (n.fdiv (2 ^ min 8 IntKind.i64.bits)))).set 31 (IntKind.u8.wrap (IntKind.i64.wrap (n * 7)))
theorem c30 (n:Int):aB Tryz.prog 30 [.v (.int .i64 n)]=some (.agg (bF (mkRoot n))):=by
 rw[cL Tryz.func30 rfl aPI rfl];simp only[ZZ,seval,Xd,Nat.reduceLT];exact fJ rfl (by simp only[EV,seval];rfl) (by simp only[ZZ,seval];rfl) (.agg _ (dX _))
theorem Ra (n:Int) (st:St) (d:Option Nat):aM (aB Tryz.prog) 30 [.v (.int .i64 n)] st d=some { dst:=d,val:=.agg (bF (mkRoot n))}:=bC (cU (.v _)) (c30 n) (qU _)
theorem aPJ (b:Block) (s:Int):aB Tryz.prog 157 [.agg (aP b),.v (.int .i64 s)]=some (.agg (cJ ⟨[⟨b,-1,s⟩]⟩)):=by
 rw[cL Tryz.func157 rfl aKt rfl];simp only[ZZ,seval];exact eH rfl (by simp only[EV,seval];rfl) (by simp only[ZZ,seval];rfl) (by simp only[EV,seval,Option.map_some]<;>rfl)
theorem aPK (b:Block) (s:Int) (st:St) (d:Option Nat):aM (aB Tryz.prog) 157 [.agg (aP b),.v (.int .i64 s)] st d=some { dst:=d,val:=.agg (cJ ⟨[⟨b,-1,s⟩]⟩)}:=bC (bE (qL _) (.v _)) (aPJ b s) (lX _)
theorem C6 (i:Int) (st:St) (d:Option Nat):aM (aB Tryz.prog) 186 [.v (.int .i64 i)] st d=some { dst:=d,val:=.v (.bool (UC i))}:=bC (cU (.v _)) (aPL i) (.v _)
theorem mS (ns:List Node) (r:cN) (hn:(ns.length:Int)<1000000) (st:St) (d:Option Nat):aM (aB Tryz.prog) 46 [.agg (cJ ⟨ns⟩),.agg (bF r)] st d=some { dst:=d,val:=.v (.int .i64 (aN ns r))}:=bC (bE (lX _) (qU _)) (c46 ns r hn) (.v _)
noncomputable def CE (ns:List Node) (b:Block) (s:Int):Int :=
 if UC s=false then 2 else if 0≤aN ns b.root then 9 else if aN ns b.parent<0 then 10 else if b.slot≤(nd ns (aN ns b.parent)).block.slot then 14 else if 4096≤(ns.length:Int) then 11 else 0
noncomputable def Hg (ns:List Node) (b:Block) (s:Int):AV :=
 if CE ns b s=0 then .eG [.agg (cJ ⟨ns++[⟨b,aN ns b.parent,s⟩]⟩),.v (.int .i64 0)] else .eG [.agg [.v (.slice none 0 0)],.v (.int .i64 (CE ns b s))]
theorem eQ (ns:List Node) (r:cN):-1≤aN ns r∧aN ns r<ns.length:=by
 unfold aN;cases h:ns.findIdx? (fun n=>decide (n.block.root=r)) with
 | none=>simp only;omega
 | some k =>
   have:=(List.findIdx?_eq_some_iff_getElem.1 h).1
   simp only;omega
theorem aPM (ns:List Node) (hn:(ns.length:Int)<1000000) (b:Block) (s:Int):aB Tryz.prog 149 [.agg (cJ ⟨ns⟩),.agg (aP b),.v (.int .i64 s)]=some (Hg ns b s):=by
 rw[cL Tryz.func149 rfl aKu rfl];have hu:=eQ ns b.parent
 cases hs:UC s
 ·simp only[ZZ,seval,C6,hs];rw[show Hg ns b s=.eG [.agg [.v (.slice none 0 0)],.v (.int .i64 2)] from by simp[Hg,CE,hs]]
  exact dN rfl (by simp only[bY,ZZ,seval];rfl) (by simp only[bY,EV,seval]<;>rfl) (by simp only[EV,seval]<;>rfl) (by simp only[EV,seval]<;>rfl)
 by_cases h1:0≤aN ns b.root
 ·simp only[ZZ,seval,C6,hs,mS,hn,h1];rw[show Hg ns b s=.eG [.agg [.v (.slice none 0 0)],.v (.int .i64 9)] from by simp[Hg,CE,hs,h1]]
  exact dN rfl (by simp only[bY,ZZ,seval];rfl) (by simp only[bY,EV,seval]<;>rfl) (by simp only[EV,seval]<;>rfl) (by simp only[EV,seval]<;>rfl)
 by_cases h2:aN ns b.parent<0
 ·simp only[ZZ,seval,C6,hs,mS,hn,h1,h2];rw[show Hg ns b s=.eG [.agg [.v (.slice none 0 0)],.v (.int .i64 10)] from by simp[Hg,CE,hs,h1,h2]]
  exact dN rfl (by simp only[bY,ZZ,seval];rfl) (by simp only[bY,EV,seval]<;>rfl) (by simp only[EV,seval]<;>rfl) (by simp only[EV,seval]<;>rfl)
 have u0:0≤aN ns b.parent:=by omega
 have u1:aN ns b.parent<ns.length:=hu.2
 by_cases h3:b.slot≤(nd ns (aN ns b.parent)).block.slot
 ·simp only[ZZ,seval,C6,hs,mS,hn,h1,h2,u0,u1,h3];rw[show Hg ns b s=.eG [.agg [.v (.slice none 0 0)],.v (.int .i64 14)] from by simp[Hg,CE,hs,h1,h2,h3]]
  exact dN rfl (by simp only[bY,ZZ,seval];rfl) (by simp only[bY,EV,seval]<;>rfl) (by simp only[EV,seval]<;>rfl) (by simp only[EV,seval]<;>rfl)
 by_cases h4:4096≤(ns.length:Int)
 ·simp only[ZZ,seval,C6,hs,mS,hn,h1,h2,u0,u1,h3,h4];rw[show Hg ns b s=.eG [.agg [.v (.slice none 0 0)],.v (.int .i64 11)] from by simp[Hg,CE,hs,h1,h2,h3,h4]]
  exact dN rfl (by simp only[bY,ZZ,seval];rfl) (by simp only[bY,EV,seval]<;>rfl) (by simp only[EV,seval]<;>rfl) (by simp only[EV,seval]<;>rfl)
 ·simp only[ZZ,seval,C6,hs,mS,hn,h1,h2,u0,u1,h3,h4];rw[show Hg ns b s=.eG [.agg (cJ ⟨ns++[⟨b,aN ns b.parent,s⟩]⟩),.v (.int .i64 0)] from by simp[Hg,CE,hs,h1,h2,h3,h4]]
  exact dN rfl (by simp only[bY,ZZ,seval];rfl) (by simp only[bY,EV,seval]<;>rfl) (by simp only[EV,seval]<;>rfl) (by simp only[EV,seval]<;>rfl)
theorem C7 (ns:List Node) (b:Block) (s:Int):Flat (Hg ns b s):=by
 unfold Hg;split
 ·exact .eG _ (bE (lX _) (.v _))
 ·exact .eG _ (bE aCv (.v _))
theorem aPN (ns:List Node) (hn:(ns.length:Int)<1000000) (b:Block) (s:Int) (st:St) (d:Option Nat):aM (aB Tryz.prog) 149 [.agg (cJ ⟨ns⟩),.agg (aP b),.v (.int .i64 s)] st d=some { dst:=d,val:=Hg ns b s }:=bC (lM (lX _) (qL _) (.v _)) (aPM ns hn b s) (C7 ns b s)
theorem aPO (n:Int):aB Tryz.prog 188 [.v (.int .u64 n)]=some (.v (.bool (decide (1≤n) && decide (n≤64)))):=by
 rw[cL Tryz.func188 rfl aKv rfl];by_cases h:1≤n
 all_goals
  simp only[Z8,seval,h,decide_true,decide_false,Bool.true_and,Bool.false_and];exact bQ rfl (by simp only[E8,seval,h,decide_true,decide_false,Bool.true_and,Bool.false_and]<;>rfl) (.v _)
theorem aKw (n:Int) (st:St) (d:Option Nat):aM (aB Tryz.prog) 188 [.v (.int .u64 n)] st d=some { dst:=d,val:=.v (.bool (decide (1≤n) && decide (n≤64)))}:=bC (cU (.v _)) (aPO n) (.v _)
noncomputable def CF (a b:Int):Int × Int:=if b≠0∧IntKind.u64.wrap (Int.tdiv 18446744073709551615 b)<a then (0,4) else (IntKind.u64.wrap (a * b),0)
theorem aPP (a b:Int):aB Tryz.prog 189 [.v (.int .u64 a),.v (.int .u64 b)]=some (.eG [.v (.int .u64 (CF a b).1),.v (.int .i64 (CF a b).2)]):=by
 rw[cL Tryz.func189 rfl aKx rfl];unfold CF;by_cases h:b=0
 ·rw[if_neg (fun k=>k.1 h)]
  have hb:(b != 0)=false:=by simp[h]
  simp only[Z8,seval,hb];exact dN rfl rfl rfl (by simp only[E8,seval]<;>rfl) (by simp only[E8,seval]<;>rfl)
 ·have hb:(b != 0)=true:=by simp[h]
  have ZK:(b=0)=False:=eq_false h
  by_cases h2:IntKind.u64.wrap (Int.tdiv 18446744073709551615 b)<a
  ·rw[if_pos ⟨h,h2⟩];simp only[Z8,seval,hb,ZK,h2];exact dN rfl rfl rfl (by simp only[E8,seval]<;>rfl) (by simp only[E8,seval]<;>rfl)
  ·rw[if_neg (fun k=>h2 k.2)]
   simp only[Z8,seval,hb,ZK,h2];exact dN rfl rfl rfl (by simp only[E8,seval]<;>rfl) (by simp only[E8,seval]<;>rfl)
theorem aPQ (a b:Int) (st:St) (d:Option Nat):aM (aB Tryz.prog) 189 [.v (.int .u64 a),.v (.int .u64 b)] st d=some { dst:=d,val:=.eG [.v (.int .u64 (CF a b).1),.v (.int .i64 (CF a b).2)]}:=bC (bE (.v _) (.v _)) (aPP a b) (.eG _ (bE (.v _) (.v _)))
noncomputable def Nu (e p:Int):Int × Int:=if 1≤p∧p≤64 then CF e p else (0,3)
theorem aPR (e p:Int):aB Tryz.prog 155 [.v (.int .u64 e),.v (.int .u64 p)]=some (.eG [.v (.int .u64 (Nu e p).1),.v (.int .i64 (Nu e p).2)]):=by
 rw[cL Tryz.func155 rfl aKy rfl];unfold Nu;by_cases h:1≤p∧p≤64
 ·have h1:(decide (1≤p) && decide (p≤64))=true:=by simp[h]
  rw[if_pos h];simp only[Z8,seval,aKw,h1,aPQ,dE];exact dN rfl rfl rfl (by simp only[E8,seval]<;>rfl) (by simp only[E8,seval]<;>rfl)
 ·have h1:(decide (1≤p) && decide (p≤64))=false:=by
   rw[Bool.eq_false_iff];intro k;simp at k;exact h k
  rw[if_neg h];simp only[Z8,seval,aKw,h1];exact dN rfl rfl rfl (by simp only[E8,seval]<;>rfl) (by simp only[E8,seval]<;>rfl)
theorem aPS (e p:Int) (st:St) (d:Option Nat):aM (aB Tryz.prog) 155 [.v (.int .u64 e),.v (.int .u64 p)] st d=some { dst:=d,val:=.eG [.v (.int .u64 (Nu e p).1),.v (.int .i64 (Nu e p).2)]}:=bC (bE (.v _) (.v _)) (aPR e p) (.eG _ (bE (.v _) (.v _)))
theorem aPT (n a b:Int):aB Tryz.prog 156 [.v (.int .i64 n),.v (.int .i64 a),.v (.int .i64 b)]=some (.v (.bool (decide (a≤n) && decide (n≤b)))):=by
 rw[cL Tryz.func156 rfl aKz rfl];by_cases h:a≤n
 all_goals
  simp only[Z8,seval,h,decide_true,decide_false,Bool.true_and,Bool.false_and];exact bQ rfl (by simp only[E8,seval,h,decide_true,decide_false,Bool.true_and,Bool.false_and]<;>rfl) (.v _)
theorem aPU (n a b:Int) (st:St) (d:Option Nat):aM (aB Tryz.prog) 156 [.v (.int .i64 n),.v (.int .i64 a),.v (.int .i64 b)] st d=some { dst:=d,val:=.v (.bool (decide (a≤n) && decide (n≤b)))}:=bC (lM (.v _) (.v _) (.v _)) (aPT n a b) (.v _)
noncomputable def CG (a b:Int):Int × Int:=if IntKind.u64.wrap (18446744073709551615-b)<a then (0,4) else (IntKind.u64.wrap (a+b),0)
theorem aPV (a b:Int):aB Tryz.prog 196 [.v (.int .u64 a),.v (.int .u64 b)]=some (.eG [.v (.int .u64 (CG a b).1),.v (.int .i64 (CG a b).2)]):=by
 rw[cL Tryz.func196 rfl aKA rfl];unfold CG;by_cases h:IntKind.u64.wrap (18446744073709551615-b)<a
 ·rw[if_pos h];simp only[Z8,seval,h];exact dN rfl rfl rfl (by simp only[E8,seval]<;>rfl) (by simp only[E8,seval]<;>rfl)
 ·rw[if_neg h];simp only[Z8,seval,h];exact dN rfl rfl rfl (by simp only[E8,seval]<;>rfl) (by simp only[E8,seval]<;>rfl)
theorem aGt (a b:Int) (st:St) (d:Option Nat):aM (aB Tryz.prog) 196 [.v (.int .u64 a),.v (.int .u64 b)] st d=some { dst:=d,val:=.eG [.v (.int .u64 (CG a b).1),.v (.int .i64 (CG a b).2)]}:=bC (bE (.v _) (.v _)) (aPV a b) (.eG _ (bE (.v _) (.v _)))
theorem ET (l:List Int):∀c∈bK l,iE c:=by rw[MF];intro c hc;obtain⟨x,_,rfl⟩:=List.mem_map.1 hc;exact .v _
theorem aPW (ns:List Node) (i:Int):aB Tryz.prog 154 [.agg (cJ ⟨ns⟩),.v (.int .i64 i)]=some (.v (.bool (decide (0≤i) && decide (i<ns.length)))):=by
 rw[cL Tryz.func154 rfl aKB rfl];by_cases h:0≤i
 all_goals
  simp only[ZZ,seval,h,decide_true,decide_false,Bool.false_eq_true,Bool.true_and,Bool.false_and];exact bQ rfl (by simp only[EV,seval]) (.v _)
theorem C8 (ns:List Node) (i:Int) (st:St) (d:Option Nat):aM (aB Tryz.prog) 154 [.agg (cJ ⟨ns⟩),.v (.int .i64 i)] st d=some { dst:=d,val:=.v (.bool (decide (0≤i) && decide (i<ns.length)))}:=bC (bE (lX _) (.v _)) (aPW ns i) (.v _)
theorem vL {ns:List Node} (h:gL ns) {i:Int} (i0:0≤i) (i1:i<ns.length):i∈path ns i:=by
 by_cases hi:i=0
 ·subst hi;rw[oJ (by omega)];simp
 ·rw[mX h (by omega) i1];simp
theorem Nv {ns:List Node} (h:gL ns):∀(k:Nat) (i:Int),i.toNat=k→0≤i→i<ns.length→∀x∈path ns i,0≤x∧x≤i:=by
 intro k;induction k using Nat.strongRecOn with
 | _ k ih =>
   intro i hk i0 i1 x hx;by_cases hi:i=0
   ·subst hi;rw[oJ (by omega)] at hx;simp at hx;omega
   ·obtain⟨u0,u1⟩:=h i (by omega) i1
    rw[mX h (by omega) i1] at hx
    rcases List.mem_append.1 hx with hx|hx
    ·have:=ih (nd ns i).up.toNat (by omega) _ rfl u0 (by omega) x hx
     omega
    ·simp at hx;omega
theorem vM {ns:List Node} (h:gL ns) {i x:Int} (hx:x∈path ns i):0≤x∧x<ns.length:=by
 by_cases hi:0≤i∧i<ns.length
 ·have:=Nv h _ i rfl hi.1 hi.2 x hx;omega
 ·rw[yR hi] at hx;simp at hx
def zI (ns:List Node) (s:Int) (l:List Int):Int:=l.foldl (fun r x=>if (nd ns x).block.slot≤s then x else r) (-1)
def Fz (ns:List Node) (i s:Int):Int:=zI ns s (path ns i)
theorem Ep (ns:List Node) (s:Int) (l:List Int) (x:Int):zI ns s (l++[x])=if (nd ns x).block.slot≤s then x else zI ns s l:=by simp[zI]
theorem Nw {ns:List Node} {i:Int} (s:Int) (h:¬(0≤i∧i<ns.length)):Fz ns i s=-1:=by unfold Fz;rw[yR h];rfl
theorem aCw {ns:List Node} (h:gL ns) {i s:Int} (hi:0≤i∧i<ns.length) (hs:(nd ns i).block.slot≤s):Fz ns i s=i:=by
 unfold Fz;by_cases h0:i=0
 ·subst h0;rw[oJ (by omega)];simp[zI,hs]
 ·rw[mX h (by omega) hi.2,Ep,if_pos hs]
theorem aGu {ns:List Node} (h:gL ns) (hr:(nd ns 0).up=-1) {i s:Int} (hi:0≤i∧i<ns.length) (hs:¬(nd ns i).block.slot≤s):Fz ns i s=Fz ns (nd ns i).up s:=by
 by_cases h0:i=0
 ·subst h0;rw[hr,Nw s (i:=-1) (by omega)];unfold Fz;rw[oJ (by omega)];simp[zI,hs]
 ·unfold Fz;rw[mX h (by omega) hi.2,Ep,if_neg hs]
theorem c96 (ns:List Node) (hu:gL ns) (hr:(nd ns 0).up=-1) (i s:Int):aB Tryz.prog 96 [.agg (cJ ⟨ns⟩),.v (.int .i64 i),.v (.int .u64 s)]=some (.v (.int .i64 (Fz ns i s))):=by
 rw[cL Tryz.func96 rfl aPX rfl];simp only[ZZ,seval];refine jV (fun n st=>∃c:Int,st.env 1=.v (.int .i64 c)∧st.env 2=.v (.int .u64 s)∧st.env 3=.ptr 3 0 0∧st.heap 3 0=some (.cells (cJ ⟨ns⟩))∧Fz ns i s=Fz ns c s∧n=(c+1).toNat)
  (fun e st=>(e=.ret∧st.env 6=.v (.int .i64 (Fz ns i s)))∨(e=.exit 0∧Fz ns i s=-1)) (i+1).toNat ?step ?start ?rest
 case step =>
  rintro n st ⟨c,h1,h2,h3,Vw,hb,Gk⟩
  by_cases hv:0≤c∧c<ns.length
  ·have hd:(decide (0≤c) && decide (c<ns.length))=true:=by simp[hv.1,hv.2]
   obtain⟨i0,aY⟩:=hv
   by_cases hs:(nd ns c).block.slot≤s
   ·have hm:Fz ns c s=c:=aCw hu ⟨i0,aY⟩ hs
    apply oT (.ret)
    ·simp only[ZZ,seval,h1,h2,h3,Vw,C8,hd,aY,i0,hs];rfl
    ·exact .inl ⟨rfl,by simp only[EV,seval,hb,hm]⟩
   ·have hm:Fz ns c s=Fz ns (nd ns c).up s:=aGu hu hr ⟨i0,aY⟩ hs
    have Lm:(nd ns c).up<c∧-1≤(nd ns c).up:=by
     by_cases h0:c=0
     ·subst h0;rw[hr];omega
     ·have:=hu c (by omega) aY;omega
    apply oN (((nd ns c).up+1).toNat)
    ·simp only[ZZ,seval,h1,h2,h3,Vw,C8,hd,aY,i0,hs];rfl
    ·exact⟨(nd ns c).up,(by simp only[EV,seval]),by simp only[EV,seval,h2],by simp only[EV,seval,h3],by simp only[EV,seval,Vw],hb.trans hm,rfl⟩
  ·have hd:(decide (0≤c) && decide (c<ns.length))=false:=by rw[← Bool.not_eq_true];simpa using hv
   apply oT (.exit 0)
   ·simp only[ZZ,seval,h1,h2,h3,Vw,C8,hd];rfl
   ·exact .inr ⟨rfl,hb.trans (Nw s hv)⟩
 case start=>exact⟨i,(by simp only[EV,seval]),(by simp only[EV,seval]),(by simp only[EV,seval]),(by simp only[EV,seval]),rfl,rfl⟩
 case rest =>
  rintro e st (⟨rfl,h⟩|⟨rfl,h⟩)
  ·simp only[ZZ,seval];exact bQ rfl h (.v _)
  ·simp only[ZZ,seval];exact bQ rfl (by simp only[EV,seval,h]) (.v _)
theorem k96 (ns:List Node) (hu:gL ns) (hr:(nd ns 0).up=-1) (i s:Int) (st:St) (d:Option Nat):aM (aB Tryz.prog) 96 [.agg (cJ ⟨ns⟩),.v (.int .i64 i),.v (.int .u64 s)] st d=some { dst:=d,val:=.v (.int .i64 (Fz ns i s))}:=bC (lM (lX _) (.v _) (.v _)) (c96 ns hu hr i s) (.v _)
theorem aCx {l:List Int} {j:Int} (j0:0≤j) (j1:j<l.length):l.take (j+1).toNat=l.take j.toNat++[it l j]:=by
 obtain⟨h,e⟩:=xP j0 j1
 rw[e,show (j+1).toNat=j.toNat+1 by omega,List.take_succ_eq_append_getElem h]
theorem Er {l:List Int} {j:Int} (j0:0≤j) (j1:j<l.length):it l j∈l:=by
 obtain⟨h,e⟩:=xP j0 j1
 rw[e];exact List.getElem_mem h
theorem aPZ (ns:List Node) (hu:gL ns) (hn:(ns.length:Int)<1000000) (i s:Int):aB Tryz.prog 100 [.agg (cJ ⟨ns⟩),.v (.int .i64 i),.v (.int .u64 s)]=some (.v (.int .i64 (Fz ns i s))):=by
 rw[cL Tryz.func100 rfl aKC rfl];by_cases hv:0≤i∧i<ns.length
 ·have hl:((path ns i).length:Int)<1000000:=by have:=Bf hu i;omega
  have hp:=k76 ns hu hn i hv.1 hv.2
  have hrg:∀x∈path ns i,0≤x∧x<ns.length:=fun x=>vM hu
  unfold Fz;generalize path ns i=p at hl hp hrg
  simp only[ZZ,seval,hp];refine jV (fun n st=>∃j:Int,st.env 2=.v (.int .u64 s)∧st.env 3=.ptr 3 0 0∧st.heap 3 0=some (.cells (cJ ⟨ns⟩))∧st.env 8=.own 12 0∧st.heap 12 0=some (.row 3 1 p.length (aK p))∧st.env 9=.v (.int .i64 j)∧st.env 7=.v (.int .i64 (zI ns s (p.take j.toNat)))∧0≤j∧j≤p.length∧n=(p.length-j).toNat)
   (fun e st=>e=.exit 0∧st.env 7=.v (.int .i64 (zI ns s p))) p.length ?step ?start ?rest
  case step =>
   rintro n st ⟨j,h2,h3,Vw,h8,hh8,h9,h7,j0,j1,Gk⟩
   by_cases aY:j<p.length
   ·have hw:IntKind.i64.wrap (j+1)=j+1:=Gl _ (by omega) (by omega)
    obtain⟨x0,x1⟩:=hrg _ (Er j0 aY)
    have ht:=aCx j0 aY
    by_cases hs:(nd ns (it p j)).block.slot≤s
    ·apply oN ((p.length-(j+1)).toNat)
     ·simp only[ZZ,seval,h2,h3,Vw,h8,hh8,h9,aY,j0,hw,x0,x1,hs];rfl
     ·exact⟨j+1,by simp only[EV,seval,h2],by simp only[EV,seval,h3],by simp only[EV,seval,Vw],by simp only[EV,seval,h8],by simp only[EV,seval,hh8],(by simp only[EV,seval]),by simp only[EV,seval,ht,Ep,hs],by omega,by omega,rfl⟩
    ·apply oN ((p.length-(j+1)).toNat)
     ·simp only[ZZ,seval,h2,h3,Vw,h8,hh8,h9,aY,j0,hw,x0,x1,hs];rfl
     ·exact⟨j+1,by simp only[EV,seval,h2],by simp only[EV,seval,h3],by simp only[EV,seval,Vw],by simp only[EV,seval,h8],by simp only[EV,seval,hh8],(by simp only[EV,seval]),by simp only[EV,seval,ht,Ep,hs,h7],by omega,by omega,rfl⟩
   ·have ht:p.take j.toNat=p:=List.take_of_length_le (by omega)
    apply oT (.exit 0)
    ·simp only[ZZ,seval,h2,h3,Vw,h8,hh8,h9,aY,j0];rfl
    ·exact⟨rfl,by rw[← ht];exact h7⟩
  case start=>exact⟨0,(by simp only[EV,seval]),(by simp only[EV,seval]),(by simp only[EV,seval]),(by simp only[EV,seval]),(by simp only[EV,seval]),(by simp only[EV,seval]),(by simp only[EV,seval];rfl),by omega,by omega,by omega⟩
  case rest =>
   rintro e st ⟨rfl,h⟩
   simp only[ZZ,seval,h];exact bQ rfl (by simp only[EV,seval]) (.v _)
 ·rw[Nw s hv];simp only[ZZ,seval,C5 ns i hv,He,Int.natCast_zero,Int.lt_irrefl,decide_false];exact bQ rfl (by simp only[EV,seval]) (.v _)
theorem MG (ns:List Node) (hu:gL ns) (hn:(ns.length:Int)<1000000) (i s:Int) (st:St) (d:Option Nat):aM (aB Tryz.prog) 100 [.agg (cJ ⟨ns⟩),.v (.int .i64 i),.v (.int .u64 s)] st d=some { dst:=d,val:=.v (.int .i64 (Fz ns i s))}:=bC (lM (lX _) (.v _) (.v _)) (aPZ ns hu hn i s) (.v _)
theorem aCy {ns:List Node} (hu:gL ns) {a c:Int} (h0:0≤c) (h1:c<ns.length) (h:¬a<c):tV ns a c=decide (a=c):=by
 unfold tV;rw[decide_eq_decide];constructor
 ·intro hm;have:=Nv hu _ c rfl h0 h1 a hm;omega
 ·rintro rfl;exact vL hu h0 h1
theorem Q4 {ns:List Node} (hu:gL ns) {a c:Int} (h1:c<ns.length) (h:a<c) (a0:0≤a):tV ns a c=tV ns a (nd ns c).up:=by
 unfold tV;rw[decide_eq_decide,mX hu (by omega) h1]
 simp only[List.mem_append,List.mem_singleton];constructor
 ·rintro (hm|rfl)
  ·exact hm
  ·omega
 ·exact .inl
theorem EU {ns:List Node} (hu:gL ns) {a c:Int} (h:¬((0≤a∧a<ns.length)∧(0≤c∧c<ns.length))):tV ns a c=false:=by
 unfold tV;rw[decide_eq_false_iff_not];intro hm;by_cases hc:0≤c∧c<ns.length
 ·exact h ⟨vM hu hm,hc⟩
 ·rw[yR hc] at hm;simp at hm
theorem aP0 (ns:List Node) (hu:gL ns) (a b:Int):aB Tryz.prog 121 [.agg (cJ ⟨ns⟩),.v (.int .i64 a),.v (.int .i64 b)]=some (.v (.bool (tV ns a b))):=by
 rw[cL Tryz.func121 rfl aKE rfl];by_cases hv:(0≤a∧a<ns.length)∧(0≤b∧b<ns.length)
 ·have hda:(decide (0≤a) && decide (a<ns.length))=true:=by simp[hv.1.1,hv.1.2]
  have hdb:(decide (0≤b) && decide (b<ns.length))=true:=by simp[hv.2.1,hv.2.2]
  simp only[ZZ,seval,C8,hda,hdb];refine jV (fun n st=>∃c:Int,st.env 1=.v (.int .i64 a)∧st.env 2=.v (.int .i64 c)∧st.env 3=.ptr 3 0 0∧st.heap 3 0=some (.cells (cJ ⟨ns⟩))∧tV ns a b=tV ns a c∧0≤c∧c<ns.length∧n=c.toNat)
   (fun e st=>e=.exit 0∧∃c:Int,st.env 1=.v (.int .i64 a)∧st.env 2=.v (.int .i64 c)∧tV ns a b=decide (a=c)) b.toNat ?step ?start ?rest
  case step =>
   rintro n st ⟨c,h1,h2,h3,Vw,hb,c0,c1,Gk⟩
   by_cases aY:a<c
   ·obtain⟨u0,u1⟩:=hu c (by omega) c1
    apply oN (((nd ns c).up).toNat)
    ·simp only[ZZ,seval,h1,h2,h3,Vw,aY,c0,c1];rfl
    ·exact⟨(nd ns c).up,by simp only[EV,seval,h1],(by simp only[EV,seval]),by simp only[EV,seval,h3],by simp only[EV,seval,Vw],hb.trans (Q4 hu c1 aY hv.1.1),u0,by omega,rfl⟩
   ·apply oT (.exit 0)
    ·simp only[ZZ,seval,h1,h2,h3,Vw,aY];rfl
    ·exact⟨rfl,c,by simp only[EV,seval,h1],by simp only[EV,seval,h2],hb.trans (aCy hu c0 c1 aY)⟩
  case start=>exact⟨b,(by simp only[EV,seval]),(by simp only[EV,seval]),(by simp only[EV,seval]),(by simp only[EV,seval]),rfl,hv.2.1,hv.2.2,rfl⟩
  case rest =>
   rintro e st ⟨rfl,c,h1,h2,h⟩
   have hbq:(a == c)=decide (a=c):=rfl
   simp only[ZZ,seval,h1,h2];exact bQ rfl (by simp only[EV,seval,h,hbq]) (.v _)
 ·rw[EU hu hv];by_cases ha:0≤a∧a<ns.length
  ·have hda:(decide (0≤a) && decide (a<ns.length))=true:=by simp[ha.1,ha.2]
   have hdb:(decide (0≤b) && decide (b<ns.length))=false:=by rw[← Bool.not_eq_true];simpa using fun h h'=>hv ⟨ha,h,h'⟩
   simp only[ZZ,seval,C8,hda,hdb];exact bQ rfl (by simp only[EV,seval]) (.v _)
  ·have hda:(decide (0≤a) && decide (a<ns.length))=false:=by rw[← Bool.not_eq_true];simpa using ha
   simp only[ZZ,seval,C8,hda];exact bQ rfl (by simp only[EV,seval]) (.v _)
theorem UD (ns:List Node) (hu:gL ns) (a b:Int) (st:St) (d:Option Nat):aM (aB Tryz.prog) 121 [.agg (cJ ⟨ns⟩),.v (.int .i64 a),.v (.int .i64 b)] st d=some { dst:=d,val:=.v (.bool (tV ns a b))}:=bC (lM (lX _) (.v _) (.v _)) (aP0 ns hu a b) (.v _)
theorem Xe {ns:List Node} (hu:gL ns) {a c:Int} (h:tV ns a c=true):(0≤a∧a<ns.length)∧(0≤c∧c<ns.length):=by
 by_cases hv:(0≤a∧a<ns.length)∧(0≤c∧c<ns.length)
 ·exact hv
 ·rw[EU hu hv] at h;cases h
theorem Q5 {ns:List Node} (hu:gL ns) {a c:Int} (h:tV ns a c=true):a≤c:=by
 have hr:=(Xe hu h).2
 unfold tV at h;exact (Nv hu _ c rfl hr.1 hr.2 a (of_decide_eq_true h)).2
theorem aP2 (a b:List Node) (hn:(a.length:Int)<1000000):aB Tryz.prog 106 [.agg (cJ ⟨a⟩),.agg (cJ ⟨b⟩)]=some (.v (.bool (decide (a=b)))):=by
 rw[cL Tryz.func106 rfl aKG rfl];by_cases hlen:a.length=b.length
 ·have hq:((a.length:Int) != (b.length:Int))=false:=by simp[hlen]
  simp only[ZZ,seval,hq];refine jV (fun n st=>∃i:Int,st.env 2=.ptr 2 0 0∧st.env 3=.ptr 3 0 0∧st.heap 2 0=some (.cells (cJ ⟨a⟩))∧st.heap 3 0=some (.cells (cJ ⟨b⟩))∧st.env 5=.v (.int .i64 i)∧0≤i∧i≤a.length∧n=(a.length-i).toNat∧∀j,0≤j→j<i→nd a j=nd b j)
   (fun e st=>(e=.ret∧st.env 4=.v (.bool (decide (a=b))))∨(e=.exit 0∧decide (a=b)=true)) a.length ?step ?start ?rest
  case step =>
   rintro n st ⟨i,h2,h3,vA,Vw,h5,i0,i1,Gk,hb⟩
   by_cases aY:i<a.length
   ·have hw:IntKind.i64.wrap (i+1)=i+1:=Gl _ (by omega) (by omega)
    have Dc:i<b.length:=by omega
    by_cases hr:nd a i=nd b i
    ·have hbq:decide (nd a i=nd b i)=true:=by simp[hr]
     apply oN ((a.length-(i+1)).toNat)
     ·simp only[ZZ,seval,h2,h3,vA,Vw,h5,aY,Dc,i0,hbq,hw];rfl
     ·exact⟨i+1,by simp only[EV,seval,h2],by simp only[EV,seval,h3],by simp only[EV,seval,vA],by simp only[EV,seval,Vw],(by simp only[EV,seval]),by omega,by omega,rfl,fun j j0 j1=>by
      rcases Int.lt_or_eq_of_le (show j≤i by omega) with h|rfl
      ·exact hb j j0 h
      ·exact hr⟩
    ·have hbq:decide (nd a i=nd b i)=false:=by simp[hr]
     have hd:decide (a=b)=false:=by rw[decide_eq_false_iff_not];intro h;exact hr (by rw[h])
     apply oT (.ret)
     ·simp only[ZZ,seval,h2,h3,vA,Vw,h5,aY,Dc,i0,hbq];rfl
     ·exact .inl ⟨rfl,by simp only[EV,seval,hd]⟩
   ·apply oT (.exit 0)
    ·simp only[ZZ,seval,h2,h3,vA,Vw,h5,aY,i0];rfl
    ·exact .inr ⟨rfl,by
     rw[decide_eq_true_eq];apply List.ext_getElem hlen
     intro j h1 h2;have:=hb j (by omega) (by omega)
     simpa [nd,h1,h2] using this⟩
  case start=>exact⟨0,(by simp only[EV,seval]),(by simp only[EV,seval]),(by simp only[EV,seval]),(by simp only[EV,seval]),(by simp only[EV,seval]),by omega,by omega,by omega,fun j _ _=>by omega⟩
  case rest =>
   rintro e st (⟨rfl,h⟩|⟨rfl,h⟩)
   ·simp only[ZZ,seval];exact bQ rfl h (.v _)
   ·simp only[ZZ,seval];exact bQ rfl (by simp only[EV,seval,h]) (.v _)
 ·have hq:((a.length:Int) != (b.length:Int))=true:=by simp;omega
  have hd:decide (a=b)=false:=by rw[decide_eq_false_iff_not];intro h;exact hlen (by rw[h])
  simp only[ZZ,seval,hq];exact bQ rfl (by simp only[EV,seval,hd]) (.v _)
theorem aKH (a b:List Node) (hn:(a.length:Int)<1000000) (st:St) (d:Option Nat):aM (aB Tryz.prog) 106 [.agg (cJ ⟨a⟩),.agg (cJ ⟨b⟩)] st d=some { dst:=d,val:=.v (.bool (decide (a=b)))}:=bC (bE (lX _) (lX _)) (aP2 a b hn) (.v _)
def jW (ns:List Node) (i:Int):Nat→List Node × List Int
 | 0=>([],[])
 | k+1 =>
   let p:=jW ns i k
   if tV ns i k=true then (p.1++[{ nd ns k with up:=if (k:Int)=i then -1 else it p.2 (nd ns k).up }],p.2++[(p.1.length:Int)]) else (p.1,p.2++[-1])
theorem wG (ns:List Node) (i:Int):∀k,(jW ns i k).2.length=k
 | 0=>rfl
 | k+1=>by
   have:=wG ns i k
   simp only[jW];split<;>simp[this]
theorem Jl (ns:List Node) (i:Int):∀k,(jW ns i k).1.length≤k
 | 0=>Nat.le_refl _
 | k+1=>by
   have:=Jl ns i k
   simp only[jW];split
   ·simp;exact this
   ·simp;omega
theorem kN {l m:List Int} {j:Int} (h0:0≤j) (h1:j<l.length):it (l++m) j=it l j:=by
 have:j.toNat<l.length:=by omega
 simp[it,List.getElem?_append_left this]
theorem vN {l:List Int} {x:Int} {j:Int} (h:j=l.length):it (l++[x]) j=x:=by
 subst h;simp[it]
theorem Jm {l m:List Node} {j:Int} (h0:0≤j) (h1:j<l.length):nd (l++m) j=nd l j:=by
 have:j.toNat<l.length:=by omega
 simp[nd,List.getElem?_append_left this]
theorem EW {l:List Node} {x:Node} {j:Int} (h:j=l.length):nd (l++[x]) j=x:=by
 subst h;simp[nd]
theorem MH (ns:List Node) (i:Int):∀(k:Nat) (j:Int),0≤j→j<k→(0≤it (jW ns i k).2 j↔tV ns i j=true)
 | 0,j,_,h=>by omega
 | k+1,j,h0,h1=>by
   have hl:=wG ns i k
   by_cases hj:j<k
   ·have ih:=MH ns i k j h0 hj
    simp only[jW];split
    ·simp only;rw[kN h0 (by omega)];exact ih
    ·simp only;rw[kN h0 (by omega)];exact ih
   ·have hjk:j=k:=by omega
    subst hjk;simp only[jW];split
    ·rename_i h;simp only;rw[vN (by omega)];simp[h]
    ·rename_i h;simp only;rw[vN (by omega)];simp[h]
theorem Nx {ns:List Node} (hu:gL ns) {i:Int} (i0:0≤i) (i1:i<ns.length):tV ns i i=true:=by
 unfold tV;rw[decide_eq_true_eq];by_cases h:i=0
 ·subst h;rw[oJ (by omega)];simp
 ·rw[mX hu (by omega) i1];simp
theorem Q6 {ns:List Node} (hu:gL ns) {a i:Int} (i0:0<i) (i1:i<ns.length) (h:a≠i):tV ns a i=tV ns a (nd ns i).up:=by
 unfold tV;rw[mX hu i0 i1];simp[h]
theorem Xf {ns:List Node} {a:Int} (h:0<ns.length):tV ns a 0=decide (a=0):=by
 unfold tV;rw[oJ h];simp
theorem Q7 (ns:List Node) (hu:gL ns) {i:Int} (i0:0≤i) (i1:i<ns.length):(jW ns i ns.length).1≠[]:=by
 have main:∀k:Nat,i<k→k≤ns.length→(jW ns i k).1≠[]:=by
  intro k;induction k with
  | zero=>intro h;omega
  | succ k ih =>
    intro h1 h2;by_cases hk:i<k
    ·have:=ih hk (by omega)
     simp only[jW];split
     ·simp
     ·exact this
    ·have UE:i=k:=by omega
     have:tV ns i k=true:=by rw[← UE];exact Nx hu i0 i1
     simp[jW,this]
 exact main ns.length i1 (Nat.le_refl _)
def aCz (st:St) (s1 s2:Nat) (y:AV) (l:List Int):Prop :=
 (y=.v (.slice none 0 0)∧l=[])∨(∃g,y=.own s1 g∧g<st.aT s1∧st.heap s1 g=some (.row 3 1 l.length (aK l)))∨(∃g,y=.own s2 g∧g<st.aT s2∧st.heap s2 g=some (.row 3 1 l.length (aK l)))
def aCA (st:St) (s1:Nat) (x:AV) (l:List Node):Prop :=
 (x=.v (.slice none 0 0)∧l=[])∨(∃g,x=.own s1 g∧g<st.aT s1∧st.heap s1 g=some (.row 76 240 l.length (bZ l)))
theorem c34 (ns:List Node) (hu:gL ns) (hn:(ns.length:Int)<1000000) (i:Int) (i0:0≤i) (i1:i<ns.length):aB Tryz.prog 34 [.agg (cJ ⟨ns⟩),.v (.int .i64 i)] =
 some (.eG [.agg (cJ ⟨(jW ns i ns.length).1⟩),.sl (jW ns i ns.length).2.length (aK (jW ns i ns.length).2),.v (.int .i64 0)]):=by
 have hd:(decide (0≤i) && decide (i<ns.length))=true:=by simp[i0,i1]
 rw[cL Tryz.func34 rfl aP4 rfl];simp only[ZZ,seval,TF,hd];refine jV (fun n st=>∃(k:Nat) (x y:AV),st.env 2=.ptr 2 0 0∧st.heap 2 0=some (.cells (cJ ⟨ns⟩))∧st.env 4=.ptr 4 0 0∧st.heap 4 0=some (.cells [.v (.slice none 0 0)])∧st.env 7=.ptr 7 0 0∧st.heap 7 0=some (.cells [x]) ∧
  st.env 1=.v (.int .i64 i)∧st.env 9=.v (.int .i64 k)∧k≤ns.length∧n=ns.length-k∧st.env 8=y∧aCz st 30 51 y (jW ns i k).2∧aCA st 56 x (jW ns i k).1)
  (fun e st=>e=.exit 0∧∃(x y:AV),st.env 4=.ptr 4 0 0∧st.heap 4 0=some (.cells [.v (.slice none 0 0)])∧st.env 7=.ptr 7 0 0∧st.heap 7 0=some (.cells [x])∧st.env 8=y∧aCz st 30 51 y (jW ns i ns.length).2∧aCA st 56 x (jW ns i ns.length).1) ns.length ?step ?start ?rest
 case step =>
  rintro n st ⟨k,x,y,h2,vA,h4,pP,h7,Gm,h1,h9,hk,Gk,h8,hy,hx⟩
  have hlen:=wG ns i k
  have Q8:=Jl ns i k
  have yF:((jW ns i k).2.length:Int)<1000000:=by omega
  have Uu:((jW ns i k).1.length:Int)<1000000:=by omega
  by_cases aY:(k:Int)<ns.length
  ·have hw:IntKind.i64.wrap ((k:Int)+1)=((k+1:Nat):Int):=by rw[Gl _ (by omega) (by omega)];simp
   have k0:(0:Int)≤k:=by omega
   by_cases Ch:tV ns i k=true
   ·have hs:jW ns i (k+1)=((jW ns i k).1++[{ nd ns k with up:=if (k:Int)=i then -1 else it (jW ns i k).2 (nd ns k).up }],(jW ns i k).2++[((jW ns i k).1.length:Int)]):=by simp only[jW,Ch,if_true]
    have upb:(k:Int)≠i→0≤(nd ns k).up∧(nd ns k).up<(jW ns i k).2.length:=fun gP=>by
     rcases Nat.eq_zero_or_pos k with h0|h0
     ·subst h0;rw[show ((0:Nat):Int)=0 from rfl,Xf (by omega)] at Ch
      simp at Ch
      omega
     ·have:=hu k (by omega) aY
      rw[hlen];omega
    by_cases UE:(k:Int)=i
    ·have hq:((k:Int) == i)=true:=by simp[UE]
     rw[if_pos UE] at hs;rcases hy with ⟨rfl,hy⟩|⟨g,rfl,hg,hy⟩|⟨g,rfl,hg,hy⟩<;>rcases hx with ⟨rfl,hx⟩|⟨g',rfl,LR,hx⟩
     ·rw[hy,hx] at hs;apply oN ((ns.length-(k+1)))
      ·simp only[ZZ,seval,h2,vA,h4,pP,h7,Gm,h1,h9,h8,aY,k0,Ns ns hu hn,Ch,hw,hq];rfl
      ·exact⟨k+1,_,_,(by simp only[EV,seval,h2]),(by simp only[EV,seval,vA]),(by simp only[EV,seval,h4]),(by simp only[EV,seval,pP]),(by simp only[EV,seval,h7]),(by simp only[EV,seval];rfl),(by simp only[EV,seval,h1]),(by simp only[EV,seval]),by omega,by omega,(by simp only[EV,seval];rfl),(by rw[hs];(try simp only[List.nil_append]);exact .inr (.inr ⟨_,rfl,(by simp only[EV,seval]<;>omega),(by simp only[EV,seval]<;>rfl)⟩)),(by rw[hs];(try simp only[List.nil_append]);exact .inr ⟨_,rfl,(by simp only[EV,seval]<;>omega),(by simp only[EV,seval]<;>rfl)⟩)⟩
     ·rw[hy] at hs;apply oN ((ns.length-(k+1)))
      ·simp only[ZZ,seval,h2,vA,h4,pP,h7,Gm,h1,h9,h8,aY,k0,Ns ns hu hn,Ch,hw,hq,hx,Uu];rfl
      ·exact⟨k+1,_,_,(by simp only[EV,seval,h2]),(by simp only[EV,seval,vA]),(by simp only[EV,seval,h4]),(by simp only[EV,seval,pP]),(by simp only[EV,seval,h7]),(by simp only[EV,seval];rfl),(by simp only[EV,seval,h1]),(by simp only[EV,seval]),by omega,by omega,(by simp only[EV,seval];rfl),(by rw[hs];(try simp only[List.nil_append]);exact .inr (.inr ⟨_,rfl,(by simp only[EV,seval]<;>omega),(by simp only[EV,seval]<;>rfl)⟩)),(by rw[hs];(try simp only[List.nil_append]);exact .inr ⟨_,rfl,(by simp only[EV,seval]<;>omega),(by simp only[EV,seval]<;>rfl)⟩)⟩
     ·rw[hx] at hs;apply oN ((ns.length-(k+1)))
      ·simp only[ZZ,seval,h2,vA,h4,pP,h7,Gm,h1,h9,h8,aY,k0,Ns ns hu hn,Ch,hw,hq,hy,yF];rfl
      ·exact⟨k+1,_,_,(by simp only[EV,seval,h2]),(by simp only[EV,seval,vA]),(by simp only[EV,seval,h4]),(by simp only[EV,seval,pP]),(by simp only[EV,seval,h7]),(by simp only[EV,seval];rfl),(by simp only[EV,seval,h1]),(by simp only[EV,seval]),by omega,by omega,(by simp only[EV,seval];rfl),(by rw[hs];(try simp only[List.nil_append]);exact .inr (.inr ⟨_,rfl,(by simp only[EV,seval]<;>omega),(by simp only[EV,seval]<;>rfl)⟩)),(by rw[hs];(try simp only[List.nil_append]);exact .inr ⟨_,rfl,(by simp only[EV,seval]<;>omega),(by simp only[EV,seval]<;>rfl)⟩)⟩
     ·apply oN ((ns.length-(k+1)))
      ·simp only[ZZ,seval,h2,vA,h4,pP,h7,Gm,h1,h9,h8,aY,k0,Ns ns hu hn,Ch,hw,hq,hy,yF,hx,Uu];rfl
      ·exact⟨k+1,_,_,(by simp only[EV,seval,h2]),(by simp only[EV,seval,vA]),(by simp only[EV,seval,h4]),(by simp only[EV,seval,pP]),(by simp only[EV,seval,h7]),(by simp only[EV,seval];rfl),(by simp only[EV,seval,h1]),(by simp only[EV,seval]),by omega,by omega,(by simp only[EV,seval];rfl),(by rw[hs];(try simp only[List.nil_append]);exact .inr (.inr ⟨_,rfl,(by simp only[EV,seval]<;>omega),(by simp only[EV,seval]<;>rfl)⟩)),(by rw[hs];(try simp only[List.nil_append]);exact .inr ⟨_,rfl,(by simp only[EV,seval]<;>omega),(by simp only[EV,seval]<;>rfl)⟩)⟩
     ·rw[hx] at hs;apply oN ((ns.length-(k+1)))
      ·simp only[ZZ,seval,h2,vA,h4,pP,h7,Gm,h1,h9,h8,aY,k0,Ns ns hu hn,Ch,hw,hq,hy,yF];rfl
      ·exact⟨k+1,_,_,(by simp only[EV,seval,h2]),(by simp only[EV,seval,vA]),(by simp only[EV,seval,h4]),(by simp only[EV,seval,pP]),(by simp only[EV,seval,h7]),(by simp only[EV,seval];rfl),(by simp only[EV,seval,h1]),(by simp only[EV,seval]),by omega,by omega,(by simp only[EV,seval];rfl),(by rw[hs];(try simp only[List.nil_append]);exact .inr (.inr ⟨_,rfl,(by simp only[EV,seval]<;>omega),(by simp only[EV,seval]<;>rfl)⟩)),(by rw[hs];(try simp only[List.nil_append]);exact .inr ⟨_,rfl,(by simp only[EV,seval]<;>omega),(by simp only[EV,seval]<;>rfl)⟩)⟩
     ·apply oN ((ns.length-(k+1)))
      ·simp only[ZZ,seval,h2,vA,h4,pP,h7,Gm,h1,h9,h8,aY,k0,Ns ns hu hn,Ch,hw,hq,hy,yF,hx,Uu];rfl
      ·exact⟨k+1,_,_,(by simp only[EV,seval,h2]),(by simp only[EV,seval,vA]),(by simp only[EV,seval,h4]),(by simp only[EV,seval,pP]),(by simp only[EV,seval,h7]),(by simp only[EV,seval];rfl),(by simp only[EV,seval,h1]),(by simp only[EV,seval]),by omega,by omega,(by simp only[EV,seval];rfl),(by rw[hs];(try simp only[List.nil_append]);exact .inr (.inr ⟨_,rfl,(by simp only[EV,seval]<;>omega),(by simp only[EV,seval]<;>rfl)⟩)),(by rw[hs];(try simp only[List.nil_append]);exact .inr ⟨_,rfl,(by simp only[EV,seval]<;>omega),(by simp only[EV,seval]<;>rfl)⟩)⟩
    ·have hq:((k:Int) == i)=false:=by simp[UE]
     obtain⟨u0,u1⟩:=upb UE
     rw[if_neg UE] at hs;rcases hy with ⟨rfl,hy⟩|⟨g,rfl,hg,hy⟩|⟨g,rfl,hg,hy⟩<;>rcases hx with ⟨rfl,hx⟩|⟨g',rfl,LR,hx⟩
     ·exfalso;rw[hy] at u1;simp at u1;omega
     ·exfalso;rw[hy] at u1;simp at u1;omega
     ·rw[hx] at hs;apply oN ((ns.length-(k+1)))
      ·simp only[ZZ,seval,h2,vA,h4,pP,h7,Gm,h1,h9,h8,aY,k0,Ns ns hu hn,Ch,hw,hq,u0,u1,hy,yF];rfl
      ·exact⟨k+1,_,_,(by simp only[EV,seval,h2]),(by simp only[EV,seval,vA]),(by simp only[EV,seval,h4]),(by simp only[EV,seval,pP]),(by simp only[EV,seval,h7]),(by simp only[EV,seval];rfl),(by simp only[EV,seval,h1]),(by simp only[EV,seval]),by omega,by omega,(by simp only[EV,seval];rfl),(by rw[hs];(try simp only[List.nil_append]);exact .inr (.inr ⟨_,rfl,(by simp only[EV,seval]<;>omega),(by simp only[EV,seval]<;>rfl)⟩)),(by rw[hs];(try simp only[List.nil_append]);exact .inr ⟨_,rfl,(by simp only[EV,seval]<;>omega),(by simp only[EV,seval]<;>rfl)⟩)⟩
     ·apply oN ((ns.length-(k+1)))
      ·simp only[ZZ,seval,h2,vA,h4,pP,h7,Gm,h1,h9,h8,aY,k0,Ns ns hu hn,Ch,hw,hq,u0,u1,hy,yF,hx,Uu];rfl
      ·exact⟨k+1,_,_,(by simp only[EV,seval,h2]),(by simp only[EV,seval,vA]),(by simp only[EV,seval,h4]),(by simp only[EV,seval,pP]),(by simp only[EV,seval,h7]),(by simp only[EV,seval];rfl),(by simp only[EV,seval,h1]),(by simp only[EV,seval]),by omega,by omega,(by simp only[EV,seval];rfl),(by rw[hs];(try simp only[List.nil_append]);exact .inr (.inr ⟨_,rfl,(by simp only[EV,seval]<;>omega),(by simp only[EV,seval]<;>rfl)⟩)),(by rw[hs];(try simp only[List.nil_append]);exact .inr ⟨_,rfl,(by simp only[EV,seval]<;>omega),(by simp only[EV,seval]<;>rfl)⟩)⟩
     ·rw[hx] at hs;apply oN ((ns.length-(k+1)))
      ·simp only[ZZ,seval,h2,vA,h4,pP,h7,Gm,h1,h9,h8,aY,k0,Ns ns hu hn,Ch,hw,hq,u0,u1,hy,yF];rfl
      ·exact⟨k+1,_,_,(by simp only[EV,seval,h2]),(by simp only[EV,seval,vA]),(by simp only[EV,seval,h4]),(by simp only[EV,seval,pP]),(by simp only[EV,seval,h7]),(by simp only[EV,seval];rfl),(by simp only[EV,seval,h1]),(by simp only[EV,seval]),by omega,by omega,(by simp only[EV,seval];rfl),(by rw[hs];(try simp only[List.nil_append]);exact .inr (.inr ⟨_,rfl,(by simp only[EV,seval]<;>omega),(by simp only[EV,seval]<;>rfl)⟩)),(by rw[hs];(try simp only[List.nil_append]);exact .inr ⟨_,rfl,(by simp only[EV,seval]<;>omega),(by simp only[EV,seval]<;>rfl)⟩)⟩
     ·apply oN ((ns.length-(k+1)))
      ·simp only[ZZ,seval,h2,vA,h4,pP,h7,Gm,h1,h9,h8,aY,k0,Ns ns hu hn,Ch,hw,hq,u0,u1,hy,yF,hx,Uu];rfl
      ·exact⟨k+1,_,_,(by simp only[EV,seval,h2]),(by simp only[EV,seval,vA]),(by simp only[EV,seval,h4]),(by simp only[EV,seval,pP]),(by simp only[EV,seval,h7]),(by simp only[EV,seval];rfl),(by simp only[EV,seval,h1]),(by simp only[EV,seval]),by omega,by omega,(by simp only[EV,seval];rfl),(by rw[hs];(try simp only[List.nil_append]);exact .inr (.inr ⟨_,rfl,(by simp only[EV,seval]<;>omega),(by simp only[EV,seval]<;>rfl)⟩)),(by rw[hs];(try simp only[List.nil_append]);exact .inr ⟨_,rfl,(by simp only[EV,seval]<;>omega),(by simp only[EV,seval]<;>rfl)⟩)⟩
   ·have Xg:tV ns i k=false:=by simpa using Ch
    have hs:jW ns i (k+1)=((jW ns i k).1,(jW ns i k).2++[-1]):=by simp[jW,Xg]
    rcases hy with ⟨rfl,hy⟩|⟨g,rfl,hg,hy⟩|⟨g,rfl,hg,hy⟩<;>rcases hx with ⟨rfl,hx⟩|⟨g',rfl,LR,hx⟩
    ·rw[hy,hx] at hs;apply oN ((ns.length-(k+1)))
     ·simp only[ZZ,seval,h2,vA,h4,pP,h7,Gm,h1,h9,h8,aY,k0,Ns ns hu hn,Xg,hw];rfl
     ·exact⟨k+1,_,_,(by simp only[EV,seval,h2]),(by simp only[EV,seval,vA]),(by simp only[EV,seval,h4]),(by simp only[EV,seval,pP]),(by simp only[EV,seval,h7]),(by simp only[EV,seval,Gm];rfl),(by simp only[EV,seval,h1]),(by simp only[EV,seval]),by omega,by omega,(by simp only[EV,seval];rfl),(by rw[hs];(try simp only[List.nil_append]);exact .inr (.inl ⟨_,rfl,(by simp only[EV,seval]<;>omega),(by simp only[EV,seval]<;>rfl)⟩)),(by rw[hs];exact .inl ⟨rfl,rfl⟩)⟩
    ·rw[hy] at hs;apply oN ((ns.length-(k+1)))
     ·simp only[ZZ,seval,h2,vA,h4,pP,h7,Gm,h1,h9,h8,aY,k0,Ns ns hu hn,Xg,hw,hx,Uu];rfl
     ·exact⟨k+1,_,_,(by simp only[EV,seval,h2]),(by simp only[EV,seval,vA]),(by simp only[EV,seval,h4]),(by simp only[EV,seval,pP]),(by simp only[EV,seval,h7]),(by simp only[EV,seval,Gm];rfl),(by simp only[EV,seval,h1]),(by simp only[EV,seval]),by omega,by omega,(by simp only[EV,seval];rfl),(by rw[hs];(try simp only[List.nil_append]);exact .inr (.inl ⟨_,rfl,(by simp only[EV,seval]<;>omega),(by simp only[EV,seval]<;>rfl)⟩)),(by rw[hs];exact .inr ⟨_,rfl,(by simp only[EV,seval]<;>omega),(by simp only[EV,seval,hx])⟩)⟩
    ·rw[hx] at hs;apply oN ((ns.length-(k+1)))
     ·simp only[ZZ,seval,h2,vA,h4,pP,h7,Gm,h1,h9,h8,aY,k0,Ns ns hu hn,Xg,hw,hy,yF];rfl
     ·exact⟨k+1,_,_,(by simp only[EV,seval,h2]),(by simp only[EV,seval,vA]),(by simp only[EV,seval,h4]),(by simp only[EV,seval,pP]),(by simp only[EV,seval,h7]),(by simp only[EV,seval,Gm];rfl),(by simp only[EV,seval,h1]),(by simp only[EV,seval]),by omega,by omega,(by simp only[EV,seval];rfl),(by rw[hs];(try simp only[List.nil_append]);exact .inr (.inl ⟨_,rfl,(by simp only[EV,seval]<;>omega),(by simp only[EV,seval]<;>rfl)⟩)),(by rw[hs];exact .inl ⟨rfl,rfl⟩)⟩
    ·apply oN ((ns.length-(k+1)))
     ·simp only[ZZ,seval,h2,vA,h4,pP,h7,Gm,h1,h9,h8,aY,k0,Ns ns hu hn,Xg,hw,hy,yF,hx,Uu];rfl
     ·exact⟨k+1,_,_,(by simp only[EV,seval,h2]),(by simp only[EV,seval,vA]),(by simp only[EV,seval,h4]),(by simp only[EV,seval,pP]),(by simp only[EV,seval,h7]),(by simp only[EV,seval,Gm];rfl),(by simp only[EV,seval,h1]),(by simp only[EV,seval]),by omega,by omega,(by simp only[EV,seval];rfl),(by rw[hs];(try simp only[List.nil_append]);exact .inr (.inl ⟨_,rfl,(by simp only[EV,seval]<;>omega),(by simp only[EV,seval]<;>rfl)⟩)),(by rw[hs];exact .inr ⟨_,rfl,(by simp only[EV,seval]<;>omega),(by simp only[EV,seval,hx])⟩)⟩
    ·rw[hx] at hs;apply oN ((ns.length-(k+1)))
     ·simp only[ZZ,seval,h2,vA,h4,pP,h7,Gm,h1,h9,h8,aY,k0,Ns ns hu hn,Xg,hw,hy,yF];rfl
     ·exact⟨k+1,_,_,(by simp only[EV,seval,h2]),(by simp only[EV,seval,vA]),(by simp only[EV,seval,h4]),(by simp only[EV,seval,pP]),(by simp only[EV,seval,h7]),(by simp only[EV,seval,Gm];rfl),(by simp only[EV,seval,h1]),(by simp only[EV,seval]),by omega,by omega,(by simp only[EV,seval];rfl),(by rw[hs];(try simp only[List.nil_append]);exact .inr (.inl ⟨_,rfl,(by simp only[EV,seval]<;>omega),(by simp only[EV,seval]<;>rfl)⟩)),(by rw[hs];exact .inl ⟨rfl,rfl⟩)⟩
    ·apply oN ((ns.length-(k+1)))
     ·simp only[ZZ,seval,h2,vA,h4,pP,h7,Gm,h1,h9,h8,aY,k0,Ns ns hu hn,Xg,hw,hy,yF,hx,Uu];rfl
     ·exact⟨k+1,_,_,(by simp only[EV,seval,h2]),(by simp only[EV,seval,vA]),(by simp only[EV,seval,h4]),(by simp only[EV,seval,pP]),(by simp only[EV,seval,h7]),(by simp only[EV,seval,Gm];rfl),(by simp only[EV,seval,h1]),(by simp only[EV,seval]),by omega,by omega,(by simp only[EV,seval];rfl),(by rw[hs];(try simp only[List.nil_append]);exact .inr (.inl ⟨_,rfl,(by simp only[EV,seval]<;>omega),(by simp only[EV,seval]<;>rfl)⟩)),(by rw[hs];exact .inr ⟨_,rfl,(by simp only[EV,seval]<;>omega),(by simp only[EV,seval,hx])⟩)⟩
  ·have Aq:k=ns.length:=by omega
   subst Aq;apply oT (.exit 0)
   ·simp only[ZZ,seval,h2,vA,h4,pP,h7,Gm,h1,h9,h8,aY];rfl
   ·exact⟨rfl,x,y,(by simp only[EV,seval,h4]),(by simp only[EV,seval,pP]),(by simp only[EV,seval,h7]),(by simp only[EV,seval,Gm]),(by simp only[EV,seval,h8]),hy,hx⟩
 case start=>exact⟨0,_,_,(by simp only[EV,seval]),(by simp only[EV,seval]),(by simp only[EV,seval]),(by simp only[EV,seval]),(by simp only[EV,seval]),(by simp only[EV,seval]<;>rfl),(by simp only[EV,seval]),(by simp only[EV,seval]<;>rfl),by omega,by omega,(by simp only[EV,seval]<;>rfl),.inl ⟨rfl,rfl⟩,.inl ⟨rfl,rfl⟩⟩
 case rest =>
  rintro e st ⟨rfl,x,y,h4,pP,h7,Gm,h8,hy,hx⟩
  have hlen:=wG ns i ns.length
  have gP:=Q7 ns hu i0 i1
  rcases hy with ⟨rfl,hy⟩|⟨g,rfl,hg,hy⟩|⟨g,rfl,hg,hy⟩<;>rcases hx with ⟨rfl,hx⟩|⟨g',rfl,LR,hx⟩
  ·exact absurd hx gP
  ·rw[hy] at hlen;simp at hlen;omega
  ·exact absurd hx gP
  ·simp only[ZZ,seval,h4,pP,h7,Gm,h8];exact fM rfl (by simp only[bY,ZZ,seval,h4,pP,h7,Gm,h8];rfl) (by simp only[bY,EV,seval]<;>rfl) (by simp only[bY,EV,seval]<;>rfl) (by simp only[EV,seval,hx,Option.map_some]<;>rfl) (by simp only[EV,seval,hy]) (by simp only[EV,seval])
  ·exact absurd hx gP
  ·simp only[ZZ,seval,h4,pP,h7,Gm,h8];exact fM rfl (by simp only[bY,ZZ,seval,h4,pP,h7,Gm,h8];rfl) (by simp only[bY,EV,seval]<;>rfl) (by simp only[bY,EV,seval]<;>rfl) (by simp only[EV,seval,hx,Option.map_some]<;>rfl) (by simp only[EV,seval,hy]) (by simp only[EV,seval])
theorem C9 {P:Program} {b:Code} {st:St} {k:Ex × St→Option (Ex × St)} {R:Ex→St→Prop} (Inv:Nat→St→Prop) (Q:Ex→St→Prop) (n:Nat)
 (step:∀n st,Inv n st→∃e st',zJ P b st=some (e,st')∧((e=.normal∧∃m,m<n∧Inv m st')∨(e≠.normal∧Q e st')))
 (start:Inv n st) (rest:∀e st',Q e st'→∃e' Q9,k (e,st')=some (e',Q9)∧R e' Q9):∃e' Q9,cT (zJ P (.loop b) st) k=some (e',Q9)∧R e' Q9:=by
 obtain⟨e,s1,h1,h2,h3⟩:=Rd Inv Q step n st start
 rw[h1];exact rest e s1 h3
theorem R3 {x:Option (Ex × St)} {st':St} {n:Nat} {Inv:Nat→St→Prop} {Q:Ex→St→Prop} (h:x=some (.normal,st')) (m:Nat) (hm:m<n) (hi:Inv m st') :
 ∃e st',x=some (e,st')∧((e=.normal∧∃m,m<n∧Inv m st')∨(e≠.normal∧Q e st')):=⟨_,_,h,.inl ⟨rfl,m,hm,hi⟩⟩
theorem D0 {call:Nat→List AV→Option AV} {ops:Array Oper} {st:St} {T:Nat} {pos:String} {eU:Array Edge} (d:Nat) (x y:Operand) {a b:Int} (h1:st.ev x=.v (.int .i64 a)) (h2:st.ev y=.v (.int .i64 b)):cI Tryz.prog call ops ⟨some d,.buildSlice 22 2 #[(0,x),(1,y)],T,pos,eU,none⟩ st =
 some ((st.new d (.row 3 1 2 (aK [a,b]))).put (some d) (.own d (st.aT d))):=by
 rw[kZ];simp[Ln,ze3,cT,h1,h2,AV.jD,Value.oneCell',gS,AV.cells,List.range,List.range.loop,aK,qV]
theorem Es {call:Nat→List AV→Option AV} {ops:Array Oper} {st:St} {T:Nat} {pos:String} {eU:Array Edge} (d:Nat) (x y:Operand):cI Tryz.prog call ops ⟨some d,.buildSlice 22 2 #[(0,x),(1,y)],T,pos,eU,none⟩ st =
 Lo (st.ev x) (fun a=>Lo (st.ev y) (fun b=>some ((st.new d (.row 3 1 2 (aK [a,b]))).put (some d) (.own d (st.aT d)))) (cI Tryz.prog call ops ⟨some d,.buildSlice 22 2 #[(0,x),(1,y)],T,pos,eU,none⟩ st))
  (cI Tryz.prog call ops ⟨some d,.buildSlice 22 2 #[(0,x),(1,y)],T,pos,eU,none⟩ st):=by
 unfold Lo;split
 ·rename_i a h1;try dsimp only
  split
  ·rename_i b h2;exact D0 d x y h1 h2
  ·rfl
 ·rfl
def Gn (ns:List Node) (i:Int):Nat→List Int
 | 0=>[]
 | k+1=>if tV ns i k=true then Gn ns i k++[(k:Int)] else Gn ns i k
theorem Vx (ns:List Node) (i:Int):∀k,(Gn ns i k).length≤k
 | 0=>Nat.le_refl _
 | k+1=>by
   have:=Vx ns i k
   simp only[Gn];split
   ·simp;omega
   ·omega
theorem UF {ns:List Node} (hu:gL ns) {i:Int} (i0:0≤i) (i1:i<ns.length):∀k:Nat,i<k→Gn ns i k≠[]
 | 0,h=>by omega
 | k+1,h=>by
   simp only[Gn];by_cases hk:i=k
   ·rw[if_pos (by unfold tV;rw[← hk];exact decide_eq_true (vL hu i0 i1))];simp
   ·have:=UF hu i0 i1 k (by omega)
    split
    ·simp
    ·exact this
theorem ZN (ns:List Node) (i x:Int):∀k:Nat,x∈Gn ns i k↔(0≤x∧x<k)∧tV ns i x=true
 | 0=>by simp[Gn];intro h h';omega
 | k+1=>by
   have ih:=ZN ns i x k
   simp only[Gn];split
   ·rename_i h;rw[List.mem_append,ih,List.mem_singleton];constructor
    ·rintro (⟨h1,h2⟩|rfl)
     ·exact⟨by omega,h2⟩
     ·exact⟨by omega,h⟩
    ·rintro⟨h1,h2⟩
     by_cases hk:x=k
     ·exact .inr hk
     ·exact .inl ⟨by omega,h2⟩
   ·rename_i h;rw[ih];constructor
    ·rintro⟨h1,h2⟩;exact⟨by omega,h2⟩
    ·rintro⟨h1,h2⟩
     by_cases hk:x=k
     ·subst hk;exact absurd h2 h
     ·exact⟨by omega,h2⟩
theorem aP5 (ns:List Node) (hu:gL ns) (hr:(nd ns 0).up<0) (hn:(ns.length:Int)<1000000) (i:Int) (i0:0≤i) (i1:i<ns.length):aB Tryz.prog 125 [.agg (cJ ⟨ns⟩),.v (.int .i64 i)] =
 some (.eG [.agg (cJ ⟨(jW ns i ns.length).1⟩),.sl (jW ns i ns.length).2.length (aK (jW ns i ns.length).2),.v (.int .i64 0)]):=by
 have hi0:decide (i<0)=false:=by simp;omega
 have hi1:decide ((ns.length:Int)≤i)=false:=by simp;omega
 rw[cL Tryz.func125 rfl aKI rfl];simp only[ZZ,seval,hi0,hi1];refine jV (fun n st=>∃(k:Nat) (x y:AV),st.env 4=.ptr 4 0 0∧st.heap 4 0=some (.cells [x])∧st.env 1=.v (.int .i64 i)∧st.env 21=.sl ns.length (bZ ns)∧st.env 22=.v (.int .i64 ns.length)∧st.env 23=.v (.int .i64 k) ∧
  k≤ns.length∧n=ns.length-k∧st.env 5=y∧aCz st 50 58 y (jW ns i k).2∧aCA st 63 x (jW ns i k).1)
  (fun e st=>e=.exit 0∧∃(x y:AV),st.env 4=.ptr 4 0 0∧st.heap 4 0=some (.cells [x])∧st.env 5=y∧aCz st 50 58 y (jW ns i ns.length).2∧aCA st 63 x (jW ns i ns.length).1) ns.length ?step ?start ?rest
 case step =>
  rintro n st ⟨k,x,y,h4,pP,h1,Ar,Ci,Xh,hk,Gk,h5,hy,hx⟩
  have hlen:=wG ns i k
  have Q8:=Jl ns i k
  have yF:((jW ns i k).2.length:Int)<1000000:=by omega
  have Uu:((jW ns i k).1.length:Int)<1000000:=by omega
  by_cases aY:(k:Int)<ns.length
  ·have hw:IntKind.i64.wrap ((k:Int)+1)=((k+1:Nat):Int):=by rw[Gl _ (by omega) (by omega)];simp
   have k0:(0:Int)≤k:=by omega
   have Tp:=Nx hu i0 i1
   by_cases UE:(k:Int)=i
   ·have hq:((k:Int) != i)=false:=by simp[UE]
    have hs:jW ns i (k+1)=((jW ns i k).1++[{ nd ns k with up:=-1 }],(jW ns i k).2++[((jW ns i k).1.length:Int)]):=by simp only[jW,UE,Tp,if_true]
    rcases hy with ⟨rfl,hy⟩|⟨g,rfl,hg,hy⟩|⟨g,rfl,hg,hy⟩<;>rcases hx with ⟨rfl,hx⟩|⟨g',rfl,LR,hx⟩
    ·rw[hy,hx] at hs;apply oN ((ns.length-(k+1)))
     ·simp only[ZZ,seval,h4,pP,h1,Ar,Ci,Xh,h5,aY,k0,hw,hq];rfl
     ·exact⟨k+1,_,_,(by simp only[EV,seval,h4]),(by simp only[EV,seval]<;>rfl),(by simp only[EV,seval,h1]),(by simp only[EV,seval,Ar]),(by simp only[EV,seval,Ci]),(by simp only[EV,seval]),by omega,by omega,(by simp only[EV,seval]<;>rfl),(by rw[hs];(try simp only[List.nil_append]);exact .inr (.inr ⟨_,rfl,(by simp only[EV,seval]<;>omega),(by simp only[EV,seval]<;>rfl)⟩)),(by rw[hs];(try simp only[List.nil_append]);exact .inr ⟨_,rfl,(by simp only[EV,seval]<;>omega),(by simp only[EV,seval]<;>rfl)⟩)⟩
    ·rw[hy] at hs;apply oN ((ns.length-(k+1)))
     ·simp only[ZZ,seval,h4,pP,h1,Ar,Ci,Xh,h5,aY,k0,hw,hq,hx,Uu];rfl
     ·exact⟨k+1,_,_,(by simp only[EV,seval,h4]),(by simp only[EV,seval]<;>rfl),(by simp only[EV,seval,h1]),(by simp only[EV,seval,Ar]),(by simp only[EV,seval,Ci]),(by simp only[EV,seval]),by omega,by omega,(by simp only[EV,seval]<;>rfl),(by rw[hs];(try simp only[List.nil_append]);exact .inr (.inr ⟨_,rfl,(by simp only[EV,seval]<;>omega),(by simp only[EV,seval]<;>rfl)⟩)),(by rw[hs];(try simp only[List.nil_append]);exact .inr ⟨_,rfl,(by simp only[EV,seval]<;>omega),(by simp only[EV,seval]<;>rfl)⟩)⟩
    ·rw[hx] at hs;apply oN ((ns.length-(k+1)))
     ·simp only[ZZ,seval,h4,pP,h1,Ar,Ci,Xh,h5,aY,k0,hw,hq,hy,yF];rfl
     ·exact⟨k+1,_,_,(by simp only[EV,seval,h4]),(by simp only[EV,seval]<;>rfl),(by simp only[EV,seval,h1]),(by simp only[EV,seval,Ar]),(by simp only[EV,seval,Ci]),(by simp only[EV,seval]),by omega,by omega,(by simp only[EV,seval]<;>rfl),(by rw[hs];(try simp only[List.nil_append]);exact .inr (.inr ⟨_,rfl,(by simp only[EV,seval]<;>omega),(by simp only[EV,seval]<;>rfl)⟩)),(by rw[hs];(try simp only[List.nil_append]);exact .inr ⟨_,rfl,(by simp only[EV,seval]<;>omega),(by simp only[EV,seval]<;>rfl)⟩)⟩
    ·apply oN ((ns.length-(k+1)))
     ·simp only[ZZ,seval,h4,pP,h1,Ar,Ci,Xh,h5,aY,k0,hw,hq,hy,yF,hx,Uu];rfl
     ·exact⟨k+1,_,_,(by simp only[EV,seval,h4]),(by simp only[EV,seval]<;>rfl),(by simp only[EV,seval,h1]),(by simp only[EV,seval,Ar]),(by simp only[EV,seval,Ci]),(by simp only[EV,seval]),by omega,by omega,(by simp only[EV,seval]<;>rfl),(by rw[hs];(try simp only[List.nil_append]);exact .inr (.inr ⟨_,rfl,(by simp only[EV,seval]<;>omega),(by simp only[EV,seval]<;>rfl)⟩)),(by rw[hs];(try simp only[List.nil_append]);exact .inr ⟨_,rfl,(by simp only[EV,seval]<;>omega),(by simp only[EV,seval]<;>rfl)⟩)⟩
    ·rw[hx] at hs;apply oN ((ns.length-(k+1)))
     ·simp only[ZZ,seval,h4,pP,h1,Ar,Ci,Xh,h5,aY,k0,hw,hq,hy,yF];rfl
     ·exact⟨k+1,_,_,(by simp only[EV,seval,h4]),(by simp only[EV,seval]<;>rfl),(by simp only[EV,seval,h1]),(by simp only[EV,seval,Ar]),(by simp only[EV,seval,Ci]),(by simp only[EV,seval]),by omega,by omega,(by simp only[EV,seval]<;>rfl),(by rw[hs];(try simp only[List.nil_append]);exact .inr (.inr ⟨_,rfl,(by simp only[EV,seval]<;>omega),(by simp only[EV,seval]<;>rfl)⟩)),(by rw[hs];(try simp only[List.nil_append]);exact .inr ⟨_,rfl,(by simp only[EV,seval]<;>omega),(by simp only[EV,seval]<;>rfl)⟩)⟩
    ·apply oN ((ns.length-(k+1)))
     ·simp only[ZZ,seval,h4,pP,h1,Ar,Ci,Xh,h5,aY,k0,hw,hq,hy,yF,hx,Uu];rfl
     ·exact⟨k+1,_,_,(by simp only[EV,seval,h4]),(by simp only[EV,seval]<;>rfl),(by simp only[EV,seval,h1]),(by simp only[EV,seval,Ar]),(by simp only[EV,seval,Ci]),(by simp only[EV,seval]),by omega,by omega,(by simp only[EV,seval]<;>rfl),(by rw[hs];(try simp only[List.nil_append]);exact .inr (.inr ⟨_,rfl,(by simp only[EV,seval]<;>omega),(by simp only[EV,seval]<;>rfl)⟩)),(by rw[hs];(try simp only[List.nil_append]);exact .inr ⟨_,rfl,(by simp only[EV,seval]<;>omega),(by simp only[EV,seval]<;>rfl)⟩)⟩
   ·have hq:((k:Int) != i)=true:=by simp[UE]
    rcases Nat.eq_zero_or_pos k with qC|qC
    ·have Lm:decide (0≤(nd ns k).up)=false:=by rw[qC];simp;omega
     have Ch:tV ns i k=false:=by rw[qC,show ((0:Nat):Int)=0 from rfl,Xf (by omega)];simp;omega
     have hs:jW ns i (k+1)=((jW ns i k).1,(jW ns i k).2++[-1]):=by simp[jW,Ch]
     rcases hy with ⟨rfl,hy⟩|⟨g,rfl,hg,hy⟩|⟨g,rfl,hg,hy⟩<;>rcases hx with ⟨rfl,hx⟩|⟨g',rfl,LR,hx⟩
     ·rw[hy,hx] at hs;apply oN ((ns.length-(k+1)))
      ·simp only[ZZ,seval,h4,pP,h1,Ar,Ci,Xh,h5,aY,k0,hw,hq,Lm];rfl
      ·exact⟨k+1,_,_,(by simp only[EV,seval,h4]),(by simp only[EV,seval,pP]<;>rfl),(by simp only[EV,seval,h1]),(by simp only[EV,seval,Ar]),(by simp only[EV,seval,Ci]),(by simp only[EV,seval]),by omega,by omega,(by simp only[EV,seval]<;>rfl),(by rw[hs];(try simp only[List.nil_append]);exact .inr (.inl ⟨_,rfl,(by simp only[EV,seval]<;>omega),(by simp only[EV,seval]<;>rfl)⟩)),(by rw[hs];exact .inl ⟨rfl,rfl⟩)⟩
     ·rw[hy] at hs;apply oN ((ns.length-(k+1)))
      ·simp only[ZZ,seval,h4,pP,h1,Ar,Ci,Xh,h5,aY,k0,hw,hq,Lm,hx,Uu];rfl
      ·exact⟨k+1,_,_,(by simp only[EV,seval,h4]),(by simp only[EV,seval,pP]<;>rfl),(by simp only[EV,seval,h1]),(by simp only[EV,seval,Ar]),(by simp only[EV,seval,Ci]),(by simp only[EV,seval]),by omega,by omega,(by simp only[EV,seval]<;>rfl),(by rw[hs];(try simp only[List.nil_append]);exact .inr (.inl ⟨_,rfl,(by simp only[EV,seval]<;>omega),(by simp only[EV,seval]<;>rfl)⟩)),(by rw[hs];exact .inr ⟨_,rfl,(by simp only[EV,seval]<;>omega),(by simp only[EV,seval,hx])⟩)⟩
     ·rw[hx] at hs;apply oN ((ns.length-(k+1)))
      ·simp only[ZZ,seval,h4,pP,h1,Ar,Ci,Xh,h5,aY,k0,hw,hq,Lm,hy,yF];rfl
      ·exact⟨k+1,_,_,(by simp only[EV,seval,h4]),(by simp only[EV,seval,pP]<;>rfl),(by simp only[EV,seval,h1]),(by simp only[EV,seval,Ar]),(by simp only[EV,seval,Ci]),(by simp only[EV,seval]),by omega,by omega,(by simp only[EV,seval]<;>rfl),(by rw[hs];(try simp only[List.nil_append]);exact .inr (.inl ⟨_,rfl,(by simp only[EV,seval]<;>omega),(by simp only[EV,seval]<;>rfl)⟩)),(by rw[hs];exact .inl ⟨rfl,rfl⟩)⟩
     ·apply oN ((ns.length-(k+1)))
      ·simp only[ZZ,seval,h4,pP,h1,Ar,Ci,Xh,h5,aY,k0,hw,hq,Lm,hy,yF,hx,Uu];rfl
      ·exact⟨k+1,_,_,(by simp only[EV,seval,h4]),(by simp only[EV,seval,pP]<;>rfl),(by simp only[EV,seval,h1]),(by simp only[EV,seval,Ar]),(by simp only[EV,seval,Ci]),(by simp only[EV,seval]),by omega,by omega,(by simp only[EV,seval]<;>rfl),(by rw[hs];(try simp only[List.nil_append]);exact .inr (.inl ⟨_,rfl,(by simp only[EV,seval]<;>omega),(by simp only[EV,seval]<;>rfl)⟩)),(by rw[hs];exact .inr ⟨_,rfl,(by simp only[EV,seval]<;>omega),(by simp only[EV,seval,hx])⟩)⟩
     ·rw[hx] at hs;apply oN ((ns.length-(k+1)))
      ·simp only[ZZ,seval,h4,pP,h1,Ar,Ci,Xh,h5,aY,k0,hw,hq,Lm,hy,yF];rfl
      ·exact⟨k+1,_,_,(by simp only[EV,seval,h4]),(by simp only[EV,seval,pP]<;>rfl),(by simp only[EV,seval,h1]),(by simp only[EV,seval,Ar]),(by simp only[EV,seval,Ci]),(by simp only[EV,seval]),by omega,by omega,(by simp only[EV,seval]<;>rfl),(by rw[hs];(try simp only[List.nil_append]);exact .inr (.inl ⟨_,rfl,(by simp only[EV,seval]<;>omega),(by simp only[EV,seval]<;>rfl)⟩)),(by rw[hs];exact .inl ⟨rfl,rfl⟩)⟩
     ·apply oN ((ns.length-(k+1)))
      ·simp only[ZZ,seval,h4,pP,h1,Ar,Ci,Xh,h5,aY,k0,hw,hq,Lm,hy,yF,hx,Uu];rfl
      ·exact⟨k+1,_,_,(by simp only[EV,seval,h4]),(by simp only[EV,seval,pP]<;>rfl),(by simp only[EV,seval,h1]),(by simp only[EV,seval,Ar]),(by simp only[EV,seval,Ci]),(by simp only[EV,seval]),by omega,by omega,(by simp only[EV,seval]<;>rfl),(by rw[hs];(try simp only[List.nil_append]);exact .inr (.inl ⟨_,rfl,(by simp only[EV,seval]<;>omega),(by simp only[EV,seval]<;>rfl)⟩)),(by rw[hs];exact .inr ⟨_,rfl,(by simp only[EV,seval]<;>omega),(by simp only[EV,seval,hx])⟩)⟩
    ·obtain⟨u0,u1'⟩:=hu k (by omega) aY
     have u1:(nd ns k).up<(jW ns i k).2.length:=by rw[hlen];exact u1'
     have TY:=MH ns i k (nd ns k).up u0 (by omega)
     have hstep:=Q6 hu (show (0:Int)<k by omega) aY (Ne.symm UE)
     cases Ch:tV ns i k
     ·have HD:decide (it (jW ns i k).2 (nd ns k).up<0)=true:=by
       rw[← hstep,Ch] at TY;simp at TY ⊢;exact TY
      have hs:jW ns i (k+1)=((jW ns i k).1,(jW ns i k).2++[-1]):=by simp[jW,Ch]
      rcases hy with ⟨rfl,hy⟩|⟨g,rfl,hg,hy⟩|⟨g,rfl,hg,hy⟩<;>rcases hx with ⟨rfl,hx⟩|⟨g',rfl,LR,hx⟩
      ·exfalso;rw[hy] at u1;simp at u1;omega
      ·exfalso;rw[hy] at u1;simp at u1;omega
      ·rw[hx] at hs;apply oN ((ns.length-(k+1)))
       ·simp only[ZZ,seval,h4,pP,h1,Ar,Ci,Xh,h5,aY,k0,hw,hq,u0,u1,HD,hy,yF];rfl
       ·exact⟨k+1,_,_,(by simp only[EV,seval,h4]),(by simp only[EV,seval,pP]<;>rfl),(by simp only[EV,seval,h1]),(by simp only[EV,seval,Ar]),(by simp only[EV,seval,Ci]),(by simp only[EV,seval]),by omega,by omega,(by simp only[EV,seval]<;>rfl),(by rw[hs];(try simp only[List.nil_append]);exact .inr (.inl ⟨_,rfl,(by simp only[EV,seval]<;>omega),(by simp only[EV,seval]<;>rfl)⟩)),(by rw[hs];exact .inl ⟨rfl,rfl⟩)⟩
      ·apply oN ((ns.length-(k+1)))
       ·simp only[ZZ,seval,h4,pP,h1,Ar,Ci,Xh,h5,aY,k0,hw,hq,u0,u1,HD,hy,yF,hx,Uu];rfl
       ·exact⟨k+1,_,_,(by simp only[EV,seval,h4]),(by simp only[EV,seval,pP]<;>rfl),(by simp only[EV,seval,h1]),(by simp only[EV,seval,Ar]),(by simp only[EV,seval,Ci]),(by simp only[EV,seval]),by omega,by omega,(by simp only[EV,seval]<;>rfl),(by rw[hs];(try simp only[List.nil_append]);exact .inr (.inl ⟨_,rfl,(by simp only[EV,seval]<;>omega),(by simp only[EV,seval]<;>rfl)⟩)),(by rw[hs];exact .inr ⟨_,rfl,(by simp only[EV,seval]<;>omega),(by simp only[EV,seval,hx])⟩)⟩
      ·rw[hx] at hs;apply oN ((ns.length-(k+1)))
       ·simp only[ZZ,seval,h4,pP,h1,Ar,Ci,Xh,h5,aY,k0,hw,hq,u0,u1,HD,hy,yF];rfl
       ·exact⟨k+1,_,_,(by simp only[EV,seval,h4]),(by simp only[EV,seval,pP]<;>rfl),(by simp only[EV,seval,h1]),(by simp only[EV,seval,Ar]),(by simp only[EV,seval,Ci]),(by simp only[EV,seval]),by omega,by omega,(by simp only[EV,seval]<;>rfl),(by rw[hs];(try simp only[List.nil_append]);exact .inr (.inl ⟨_,rfl,(by simp only[EV,seval]<;>omega),(by simp only[EV,seval]<;>rfl)⟩)),(by rw[hs];exact .inl ⟨rfl,rfl⟩)⟩
      ·apply oN ((ns.length-(k+1)))
       ·simp only[ZZ,seval,h4,pP,h1,Ar,Ci,Xh,h5,aY,k0,hw,hq,u0,u1,HD,hy,yF,hx,Uu];rfl
       ·exact⟨k+1,_,_,(by simp only[EV,seval,h4]),(by simp only[EV,seval,pP]<;>rfl),(by simp only[EV,seval,h1]),(by simp only[EV,seval,Ar]),(by simp only[EV,seval,Ci]),(by simp only[EV,seval]),by omega,by omega,(by simp only[EV,seval]<;>rfl),(by rw[hs];(try simp only[List.nil_append]);exact .inr (.inl ⟨_,rfl,(by simp only[EV,seval]<;>omega),(by simp only[EV,seval]<;>rfl)⟩)),(by rw[hs];exact .inr ⟨_,rfl,(by simp only[EV,seval]<;>omega),(by simp only[EV,seval,hx])⟩)⟩
     ·have HD:decide (it (jW ns i k).2 (nd ns k).up<0)=false:=by
       rw[← hstep,Ch] at TY;simp at TY ⊢;exact TY
      have hs:jW ns i (k+1)=((jW ns i k).1++[{ nd ns k with up:=it (jW ns i k).2 (nd ns k).up }],(jW ns i k).2++[((jW ns i k).1.length:Int)]):=by simp only[jW,Ch,if_true,if_neg UE]
      rcases hy with ⟨rfl,hy⟩|⟨g,rfl,hg,hy⟩|⟨g,rfl,hg,hy⟩<;>rcases hx with ⟨rfl,hx⟩|⟨g',rfl,LR,hx⟩
      ·exfalso;rw[hy] at u1;simp at u1;omega
      ·exfalso;rw[hy] at u1;simp at u1;omega
      ·rw[hx] at hs;apply oN ((ns.length-(k+1)))
       ·simp only[ZZ,seval,h4,pP,h1,Ar,Ci,Xh,h5,aY,k0,hw,hq,u0,u1,HD,hy,yF];rfl
       ·exact⟨k+1,_,_,(by simp only[EV,seval,h4]),(by simp only[EV,seval]<;>rfl),(by simp only[EV,seval,h1]),(by simp only[EV,seval,Ar]),(by simp only[EV,seval,Ci]),(by simp only[EV,seval]),by omega,by omega,(by simp only[EV,seval]<;>rfl),(by rw[hs];(try simp only[List.nil_append]);exact .inr (.inr ⟨_,rfl,(by simp only[EV,seval]<;>omega),(by simp only[EV,seval]<;>rfl)⟩)),(by rw[hs];(try simp only[List.nil_append]);exact .inr ⟨_,rfl,(by simp only[EV,seval]<;>omega),(by simp only[EV,seval]<;>rfl)⟩)⟩
      ·apply oN ((ns.length-(k+1)))
       ·simp only[ZZ,seval,h4,pP,h1,Ar,Ci,Xh,h5,aY,k0,hw,hq,u0,u1,HD,hy,yF,hx,Uu];rfl
       ·exact⟨k+1,_,_,(by simp only[EV,seval,h4]),(by simp only[EV,seval]<;>rfl),(by simp only[EV,seval,h1]),(by simp only[EV,seval,Ar]),(by simp only[EV,seval,Ci]),(by simp only[EV,seval]),by omega,by omega,(by simp only[EV,seval]<;>rfl),(by rw[hs];(try simp only[List.nil_append]);exact .inr (.inr ⟨_,rfl,(by simp only[EV,seval]<;>omega),(by simp only[EV,seval]<;>rfl)⟩)),(by rw[hs];(try simp only[List.nil_append]);exact .inr ⟨_,rfl,(by simp only[EV,seval]<;>omega),(by simp only[EV,seval]<;>rfl)⟩)⟩
      ·rw[hx] at hs;apply oN ((ns.length-(k+1)))
       ·simp only[ZZ,seval,h4,pP,h1,Ar,Ci,Xh,h5,aY,k0,hw,hq,u0,u1,HD,hy,yF];rfl
       ·exact⟨k+1,_,_,(by simp only[EV,seval,h4]),(by simp only[EV,seval]<;>rfl),(by simp only[EV,seval,h1]),(by simp only[EV,seval,Ar]),(by simp only[EV,seval,Ci]),(by simp only[EV,seval]),by omega,by omega,(by simp only[EV,seval]<;>rfl),(by rw[hs];(try simp only[List.nil_append]);exact .inr (.inr ⟨_,rfl,(by simp only[EV,seval]<;>omega),(by simp only[EV,seval]<;>rfl)⟩)),(by rw[hs];(try simp only[List.nil_append]);exact .inr ⟨_,rfl,(by simp only[EV,seval]<;>omega),(by simp only[EV,seval]<;>rfl)⟩)⟩
      ·apply oN ((ns.length-(k+1)))
       ·simp only[ZZ,seval,h4,pP,h1,Ar,Ci,Xh,h5,aY,k0,hw,hq,u0,u1,HD,hy,yF,hx,Uu];rfl
       ·exact⟨k+1,_,_,(by simp only[EV,seval,h4]),(by simp only[EV,seval]<;>rfl),(by simp only[EV,seval,h1]),(by simp only[EV,seval,Ar]),(by simp only[EV,seval,Ci]),(by simp only[EV,seval]),by omega,by omega,(by simp only[EV,seval]<;>rfl),(by rw[hs];(try simp only[List.nil_append]);exact .inr (.inr ⟨_,rfl,(by simp only[EV,seval]<;>omega),(by simp only[EV,seval]<;>rfl)⟩)),(by rw[hs];(try simp only[List.nil_append]);exact .inr ⟨_,rfl,(by simp only[EV,seval]<;>omega),(by simp only[EV,seval]<;>rfl)⟩)⟩
  ·have Aq:k=ns.length:=by omega
   subst Aq;apply oT (.exit 0)
   ·simp only[ZZ,seval,h4,pP,h1,Ar,Ci,Xh,aY,h5];rfl
   ·exact⟨rfl,x,y,(by simp only[EV,seval,h4]),(by simp only[EV,seval,pP]),(by simp only[EV,seval,h5]),hy,hx⟩
 case start=>exact⟨0,_,_,(by simp only[EV,seval]),(by simp only[EV,seval]<;>rfl),(by simp only[EV,seval]),(by simp only[EV,seval]),(by simp only[EV,seval]),(by simp only[EV,seval]),by omega,by omega,(by simp only[EV,seval]<;>rfl),.inl ⟨rfl,rfl⟩,.inl ⟨rfl,rfl⟩⟩
 case rest =>
  rintro e st ⟨rfl,x,y,h4,pP,h5,hy,hx⟩
  have hlen:=wG ns i ns.length
  have gP:=Q7 ns hu i0 i1
  rcases hy with ⟨rfl,hy⟩|⟨g,rfl,hg,hy⟩|⟨g,rfl,hg,hy⟩<;>rcases hx with ⟨rfl,hx⟩|⟨g',rfl,LR,hx⟩
  ·exact absurd hx gP
  ·rw[hy] at hlen;simp at hlen;omega
  ·exact absurd hx gP
  ·simp only[ZZ,seval,h4,pP,h5];exact fM rfl (by simp only[bY,ZZ,seval,h4,pP,h5];rfl) (by simp only[bY,EV,seval]<;>rfl) (by simp only[bY,EV,seval]<;>rfl) (by simp only[EV,seval,hx,Option.map_some]<;>rfl) (by simp only[EV,seval,hy]) (by simp only[EV,seval])
  ·exact absurd hx gP
  ·simp only[ZZ,seval,h4,pP,h5];exact fM rfl (by simp only[bY,ZZ,seval,h4,pP,h5];rfl) (by simp only[bY,EV,seval]<;>rfl) (by simp only[bY,EV,seval]<;>rfl) (by simp only[EV,seval,hx,Option.map_some]<;>rfl) (by simp only[EV,seval,hy]) (by simp only[EV,seval])
def D1 (ns:List Node) (i:Int):AV:=.eG [.agg (cJ ⟨(jW ns i ns.length).1⟩),.sl (jW ns i ns.length).2.length (aK (jW ns i ns.length).2),.v (.int .i64 0)]
theorem EX (ns:List Node) (i:Int):Flat (D1 ns i):=.eG _ (lM (lX _) (Eo _) (.v _))
theorem aP7 (ns:List Node) (hu:gL ns) (hr:(nd ns 0).up<0) (hn:(ns.length:Int)<1000000) (i:Int) (h:0≤i∧i<ns.length) (st:St) (d:Option Nat):aM (aB Tryz.prog) 125 [.agg (cJ ⟨ns⟩),.v (.int .i64 i)] st d=some { dst:=d,val:=D1 ns i }:=bC (bE (lX _) (.v _)) (aP5 ns hu hr hn i h.1 h.2) (EX ns i)
theorem k34 (ns:List Node) (hu:gL ns) (hn:(ns.length:Int)<1000000) (i:Int) (h:0≤i∧i<ns.length) (st:St) (d:Option Nat):aM (aB Tryz.prog) 34 [.agg (cJ ⟨ns⟩),.v (.int .i64 i)] st d=some { dst:=d,val:=D1 ns i }:=bC (bE (lX _) (.v _)) (c34 ns hu hn i h.1 h.2) (EX ns i)
theorem UG {ns:List Node} (hu:gL ns) {i:Int}:∀k:Nat,k≤ns.length→∀a:Int,0≤a→a<k→tV ns i a=true →
 0≤it (jW ns i k).2 a∧it (jW ns i k).2 a<(jW ns i k).1.length∧nd (jW ns i k).1 (it (jW ns i k).2 a)={ nd ns a with up:=if a=i then -1 else it (jW ns i k).2 (nd ns a).up }
 | 0,_,a,a0,a1,_=>by omega
 | k+1,hk,a,a0,a1,ha=>by
   have hl:=wG ns i k
   have Lm:a≠i→0≤(nd ns a).up∧(nd ns a).up<a:=fun h=>by
    by_cases ha0:a=0
    ·subst ha0;rw[Xf (by omega)] at ha;simp at ha;omega
    ·exact hu a (by omega) (by omega)
   by_cases hak:a<k
   ·obtain⟨h1,h2,h3⟩:=UG hu k (by omega) a a0 hak ha
    simp only[jW];split
    ·simp only
     rw[kN a0 (by omega),Jm h1 h2,h3]
     refine⟨h1,by simp;omega, ?_⟩
     by_cases EY:a=i
     ·rw[if_pos EY,if_pos EY]
     ·obtain⟨u0,u1⟩:=Lm EY
      rw[if_neg EY,if_neg EY,kN u0 (by omega)]
    ·simp only
     rw[kN a0 (by omega),h3]
     refine⟨h1,h2, ?_⟩
     by_cases EY:a=i
     ·rw[if_pos EY,if_pos EY]
     ·obtain⟨u0,u1⟩:=Lm EY
      rw[if_neg EY,if_neg EY,kN u0 (by omega)]
   ·have hak:a=k:=by omega
    subst hak;simp only[jW,ha,if_true];rw[vN (by omega),EW rfl]
    refine⟨by omega,by simp<;>omega, ?_⟩
    by_cases EY:(k:Int)=i
    ·rw[if_pos EY,if_pos EY]
    ·obtain⟨u0,u1⟩:=Lm EY
     rw[if_neg EY,if_neg EY,kN u0 (by omega)]
theorem Lp (ns:List Node) (i:Int):∀(d k:Nat) (a:Int),0≤a→a<k→it (jW ns i (k+d)).2 a=it (jW ns i k).2 a
 | 0,k,a,_,_=>rfl
 | d+1,k,a,a0,a1=>by
   have ih:=Lp ns i d k a a0 a1
   have hl:=wG ns i (k+d)
   rw[← ih,← Nat.add_assoc];simp only[jW];split
   ·simp only;rw[kN a0 (by omega)]
   ·simp only;rw[kN a0 (by omega)]
theorem aCB {ns:List Node} {i:Int} {n:Nat} {k:Nat} (hk:k<n) (ha:tV ns i k=true):it (jW ns i n).2 k=(jW ns i k).1.length:=by
 obtain⟨d,rfl⟩:∃d,n=k+1+d:=⟨n-(k+1),by omega⟩
 rw[Lp ns i d (k+1) k (by omega) (by omega)]
 have hl:=wG ns i k
 simp only[jW,ha,if_true];rw[vN (by omega)]
theorem R4 {ns:List Node} (hu:gL ns) {i:Int} {n:Nat} (hn:n≤ns.length) {a b:Int} (a0:0≤a) (hab:a<b) (hb:b<n) (ha:tV ns i a=true) (oF:tV ns i b=true):it (jW ns i n).2 a<it (jW ns i n).2 b:=by
 obtain⟨k,rfl⟩:∃k:Nat,b=k:=⟨b.toNat,by omega⟩
 rw[aCB (by omega) oF]
 obtain⟨d,rfl⟩:∃d,n=k+d:=⟨n-k,by omega⟩
 rw[Lp ns i d k a a0 hab];exact (UG hu k (by omega) a a0 hab ha).2.1
theorem Ny (ns:List Node) (i:Int):∀(k:Nat) (m:Int),0≤m→m<(jW ns i k).1.length→∃a:Int,0≤a∧a<k∧tV ns i a=true∧it (jW ns i k).2 a=m
 | 0,m,m0,m1=>by simp[jW] at m1;omega
 | k+1,m,m0,m1=>by
   have hl:=wG ns i k
   simp only[jW] at m1 ⊢;split at m1
   ·rename_i h;rw[if_pos h];simp only at m1 ⊢
    by_cases hm:m<(jW ns i k).1.length
    ·obtain⟨a,a0,a1,ha,he⟩:=Ny ns i k m m0 hm
     exact⟨a,a0,by omega,ha,by rw[kN a0 (by omega)];exact he⟩
    ·simp at m1
     exact⟨k,by omega,by omega,h,by rw[vN (by omega)];omega⟩
   ·rename_i h;rw[if_neg h];simp only at m1 ⊢
    obtain⟨a,a0,a1,ha,he⟩:=Ny ns i k m m0 m1
    exact⟨a,a0,by omega,ha,by rw[kN a0 (by omega)];exact he⟩
end Go.Ab.Tryz
section
namespace Go.Ab.Tryz
open Classical Go.Proofs Go.Ab
variable {ns:List Node} {i:Int}
theorem MI (hu:gL ns) {a:Int} (ha:tV ns i a=true):0≤it (jW ns i ns.length).2 a∧it (jW ns i ns.length).2 a<(jW ns i ns.length).1.length∧nd (jW ns i ns.length).1 (it (jW ns i ns.length).2 a)={ nd ns a with up:=if a=i then -1 else it (jW ns i ns.length).2 (nd ns a).up }:=by
 have h:=(Xe hu ha).2
 exact UG hu ns.length (Nat.le_refl _) a h.1 h.2 ha
theorem ZO (hu:gL ns) {a b:Int} (hab:a<b) (ha:tV ns i a=true) (hb:tV ns i b=true):it (jW ns i ns.length).2 a<it (jW ns i ns.length).2 b :=
 R4 hu (Nat.le_refl _) (Xe hu ha).2.1 hab (Xe hu hb).2.2 ha hb
theorem ZP (hu:gL ns) (hi:tV ns i i=true):it (jW ns i ns.length).2 i=0:=by
 obtain⟨h1,h2,_⟩:=MI hu hi
 obtain⟨a,a0,a1,ha,he⟩:=Ny ns i ns.length 0 (Int.le_refl 0) (by omega)
 have:=Q5 hu ha
 by_cases h:i=a
 ·rw[h] at he ⊢;rw[← h] at he ⊢;exact he
 ·have:=ZO hu (show i<a by omega) hi ha
  omega
theorem aKJ (hu:gL ns) {a:Int} (ha:tV ns i a=true) (h:a≠i):0<a∧(0≤(nd ns a).up∧(nd ns a).up<a)∧tV ns i (nd ns a).up=true:=by
 obtain⟨⟨i0,_⟩,a0,a1⟩:=Xe hu ha
 have:=Q5 hu ha
 have hp:0<a:=by omega
 refine⟨hp,hu a hp a1, ?_⟩
 rw[← Q4 hu a1 (by omega) i0];exact ha
theorem aCC (hu:gL ns) (hi:tV ns i i=true):gL (jW ns i ns.length).1:=by
 intro m m0 m1;obtain⟨a,a0,a1,ha,rfl⟩:=Ny ns i ns.length m (by omega) m1
 have EY:a≠i:=by rintro rfl;rw[ZP hu hi] at m0;omega
 obtain⟨_,⟨u0,u1⟩,Lm⟩:=aKJ hu ha EY
 rw[(MI hu ha).2.2];simp only[if_neg EY];exact⟨(MI hu Lm).1,ZO hu u1 Lm ha⟩
end Go.Ab.Tryz
end
namespace Go.Ab.Tryz
open Classical Go.Proofs Go.Ab
structure Vld (ns:List Node):Prop where
 D2:0<ns.length
 aWK:ns.length≤4096
 Xi:(nd ns 0).up=-1
 up:gL ns
 par:∀i:Int,0<i→i<ns.length→(nd ns i).block.parent=(nd ns (nd ns i).up).block.root
 slot:∀i:Int,0<i→i<ns.length→(nd ns (nd ns i).up).block.slot<(nd ns i).block.slot
 roots:∀i j:Int,0≤i→i<j→j<ns.length→(nd ns i).block.root≠(nd ns j).block.root
 st:∀i:Int,0≤i→i<ns.length→UC (nd ns i).status=true
end Go.Ab.Tryz
namespace Go.Ab.Tryz
open Classical Go.Proofs Go.Ab
end Go.Ab.Tryz
namespace Go.Ab.Tryz
open Classical Go.Proofs Go.Ab
noncomputable def Tq (st:St) (e:Option oB) (o:Nat):Option AV :=
 match e with
 | some (.cells cs)=>(cP (cs.map (wO st))).map fun ds=>.ip ds o
 | _=>none
theorem oK (st:St) (f s g o:Nat):fO st (.rW f [.ptr s g o])=(Tq st (st.heap s g) o).map fun y=>.rW f [y]:=by
 have hn:¬Flat (.rW f [.ptr s g o]):=by intro h;cases h with|rW _ _ h=>exact yG s g o (h _ (by simp))
 unfold fO Tq;rw[if_neg hn];simp only[List.map_cons,List.map_nil];unfold cS;rw[if_neg (yG s g o)];simp only
 cases st.heap s g with
 | none=>rfl
 | some e=>cases e with
   | cells cs =>
     simp only
     cases cP (cs.map (wO st))<;>rfl
   | _=>rfl
theorem sY (st:St) {cs:List AV} (h:∀c∈cs,Flat c) (o:Nat):Tq st (some (.cells cs)) o=some (.ip cs o):=by
 unfold Tq;simp only[Hh h,Option.map_some]
theorem UH (st:St) (r:cN) (o:Nat):Tq st (some (.cells (bF r))) o=some (.ip (bF r) o):=sY st (dX r) o
theorem aP8 (n:Node) (r:cN):aB Tryz.prog 151 [.agg (fK n),.ip (bF r) 0]=some (.v (.bool (decide (n.block.root=r)))):=by
 rw[cL Tryz.func151 rfl aKK rfl];simp only[ZZ,seval];exact bQ rfl (by simp only[EV,seval]) (.v _)
theorem aCD (r:cN):Flat (.ip (bF r) 0):=.ip _ _ (dX r)
theorem aKL (n:Node) (r:cN) (st:St) (d:Option Nat):aM (aB Tryz.prog) 151 ([.agg (fK n)]++[.ip (bF r) 0]) st d=some { dst:=d,val:=.v (.bool (decide (n.block.root=r)))}:=bC (bE (.agg _ (Lq n)) (aCD r)) (aP8 n r) (.v _)
theorem aP9 (ns:List Node) (hn:(ns.length:Int)<1000000) (r:cN):aB Tryz.prog 150 [.sl ns.length (bZ ns),.rW 151 [.ip (bF r) 0]]=some (.v (.int .i64 (aN ns r))):=by
 rw[cL Tryz.func150 rfl aKM rfl];simp only[ZZ,seval];refine jV (fun n st=>∃i:Int,(st.env 0=.sl ns.length (bZ ns)∧st.env 1=.rW 151 [.ip (bF r) 0]∧st.env 7=.v (.int .i64 ns.length)∧st.env 8=.v (.int .i64 i))∧0≤i∧i≤ns.length∧n=(ns.length-i).toNat∧∀j,0≤j→j<i→(nd ns j).block.root≠r)
  (fun e st=>(e=.ret∧st.env 4=.v (.int .i64 (aN ns r)))∨(e=.exit 0∧aN ns r=-1)) ns.length ?step ?start ?rest
 case step =>
  rintro n st ⟨i,hI,i0,i1,Gk,hb⟩
  by_cases aY:i<ns.length
  ·have hw:IntKind.i64.wrap (i+1)=i+1:=Gl _ (by omega) (by omega)
   by_cases hr:(nd ns i).block.root=r
   ·have hd:decide ((nd ns i).block.root=r)=true:=decide_eq_true hr
    apply oT (.ret)
    ·simp only[ZZ,seval,hI,aY,i0,aKL,hd];rfl
    ·exact .inl ⟨rfl,by simp only[EV,seval,MJ i0 aY hr hb]⟩
   ·have hd:decide ((nd ns i).block.root=r)=false:=decide_eq_false hr
    apply oN ((ns.length-(i+1)).toNat)
    ·simp only[ZZ,seval,hI,aY,i0,aKL,hd,hw];rfl
    ·exact⟨i+1,by simp only[EV,seval,hI],by omega,by omega,rfl,fun j j0 j1=>by
     rcases Int.lt_or_eq_of_le (show j≤i by omega) with h|rfl
     ·exact hb j j0 h
     ·exact hr⟩
  ·apply oT (.exit 0)
   ·simp only[ZZ,seval,hI,aY,i0];rfl
   ·exact .inr ⟨rfl,Xj fun j j0 j1=>hb j j0 (by omega)⟩
 case start=>exact⟨0,(by simp only[EV,seval]),by omega,by omega,by omega,fun j _ _=>by omega⟩
 case rest =>
  rintro e st (⟨rfl,h⟩|⟨rfl,h⟩)
  ·simp only[ZZ,seval];exact bQ rfl h (.v _)
  ·simp only[ZZ,seval];exact bQ rfl (by simp only[EV,seval,h]) (.v _)
theorem aQa (args:List AV) (st:St) (d:Option Nat):aM (aB Tryz.prog) 150 args st d=uD (aB Tryz.prog) 150 (cP (args.map (fO st))) (decide (∀x∈args,Flat x)) st d:=jU _ _ _ _ _
theorem aQb (ns:List Node) (hn:(ns.length:Int)<1000000) (r:cN) (fl:Bool) (st:St) (d:Option Nat):uD (aB Tryz.prog) 150 (some [.sl ns.length (bZ ns),.rW 151 [.ip (bF r) 0]]) fl st d=some { dst:=d,val:=.v (.int .i64 (aN ns r))}:=Tr (aP9 ns hn r)
theorem R5 (st:St) (n:Nat) (l:List Node):fO st (.sl n (bZ l))=some (.sl n (bZ l)):=eC (.sl _ _ (iF l))
theorem c89 (ns:List Node) (r:cN) (hn:(ns.length:Int)<1000000):aB Tryz.prog 89 [.agg (cJ ⟨ns⟩),.agg (bF r)]=some (.v (.int .i64 (aN ns r))):=by
 rw[cL Tryz.func89 rfl aQc rfl];simp only[ZZ,seval,aQa,oK,UH,R5,aQb,hn];exact bQ rfl (by simp only[EV,seval]) (.v _)
theorem O3 (ns:List Node) (r:cN) (hn:(ns.length:Int)<1000000) (st:St) (d:Option Nat):aM (aB Tryz.prog) 89 [.agg (cJ ⟨ns⟩),.agg (bF r)] st d=some { dst:=d,val:=.v (.int .i64 (aN ns r))}:=bC (bE (lX _) (qU _)) (c89 ns r hn) (.v _)
end Go.Ab.Tryz
namespace Go.Ab.Tryz
open Classical Go.Proofs Go.Ab
end Go.Ab.Tryz
namespace Go.Ab.Tryz
open Classical Go.Proofs Go.Ab
noncomputable def aGx (l:List Int):AV:=if l=[] then .v (.slice none 0 0) else .uniq 3 1 l.length (aK l)
theorem Xk:aGx []=.v (.slice none 0 0):=if_pos rfl
theorem ZQ {l:List Int} (h:l≠[]):aGx l=.uniq 3 1 l.length (aK l):=if_neg h
def Ts (ns:List Node) (i:Int):Nat→List Int
 | 0=>[]
 | k+1=>if (nd ns k).up=i then Ts ns i k++[(k:Int)] else Ts ns i k
theorem Vy (ns:List Node) (i:Int):∀k,(Ts ns i k).length≤k
 | 0=>Nat.le_refl _
 | k+1=>by
   have:=Vy ns i k
   simp only[Ts];split
   ·simp;omega
   ·omega
theorem MK {ns:List Node} {i:Int}:∀k:Nat,(∀j:Int,0≤j→j<k→(nd ns j).up≠i)→Ts ns i k=[]
 | 0,_=>rfl
 | k+1,h=>by
   simp only[Ts];rw[if_neg (h k (by omega) (by omega))]
   exact MK k fun j j0 j1=>h j j0 (by omega)
theorem aKN {ns:List Node} (hu:gL ns) (hr:(nd ns 0).up=-1) {j:Int} (j0:0≤j) (j1:j<ns.length):(nd ns j).up<ns.length:=by
 by_cases h:j=0
 ·subst h;omega
 ·have:=hu j (by omega) j1;omega
def wR (ns:List Node) (i:Int):List Int:=if i<0 then [] else Ts ns i ns.length
theorem ML {ns:List Node} (hu:gL ns) (hr:(nd ns 0).up=-1) {i:Int} (h:¬(0≤i∧i<ns.length)):wR ns i=[]:=by
 unfold wR;split
 ·rfl
 ·exact MK _ fun j j0 j1=>by have:=aKN hu hr j0 j1;omega
theorem aKO (ns:List Node) (hu:gL ns) (hr:(nd ns 0).up=-1) (hn:(ns.length:Int)<1000000) (i:Int):aB Tryz.prog 245 [.agg (cJ ⟨ns⟩),.v (.int .i64 i)]=some (aGx (wR ns i)):=by
 rw[cL Tryz.func245 rfl aKP rfl];by_cases hm:0≤i∧i<ns.length
 ·have hd:(decide (0≤i) && decide (i<ns.length))=true:=by simp[hm.1,hm.2]
  rw[show wR ns i=Ts ns i ns.length from if_neg (by omega)]
  simp only[ZZ,seval];refine jV (fun n st=>∃k:Nat,(st.env 1=.v (.int .i64 i)∧st.env 2=.ptr 2 0 0∧st.heap 2 0=some (.cells (cJ ⟨ns⟩))∧st.env 6=.v (.int .i64 k)) ∧
   ((Ts ns i k=[]∧st.env 5=.v (.slice none 0 0))∨(Ts ns i k≠[]∧∃g,st.env 5=.own 30 g∧g<st.aT 30∧st.heap 30 g=some (.row 3 1 (Ts ns i k).length (aK (Ts ns i k)))))∧k≤ns.length∧n=ns.length-k)
   (fun e st=>e=.exit 0∧((Ts ns i ns.length=[]∧st.env 5=.v (.slice none 0 0))∨(Ts ns i ns.length≠[]∧∃g,st.env 5=.own 30 g∧g<st.aT 30∧st.heap 30 g=some (.row 3 1 (Ts ns i ns.length).length (aK (Ts ns i ns.length)))))) ns.length ?step ?start ?rest
  case step =>
   rintro n st ⟨k,hI,h5,hk,Gk⟩
   have hl:=Vy ns i k
   have Gx:((Ts ns i k).length:Int)<1000000:=by omega
   by_cases aY:(k:Int)<ns.length
   ·have hw:IntKind.i64.wrap ((k:Int)+1)=((k+1:Nat):Int):=by rw[Gl _ (by omega) (by omega)];omega
    have q0:(0:Int)≤k:=by omega
    by_cases hu:(nd ns k).up=i
    ·have hq:((nd ns k).up == i)=true:=by simp[hu]
     have hs:Ts ns i (k+1)=Ts ns i k++[(k:Int)]:=by simp only[Ts,hu,if_true]
     rcases h5 with ⟨hy,h5⟩|⟨hy,g,h5⟩
     ·rw[hy] at hs;apply oN (ns.length-(k+1))
      ·simp only[ZZ,seval,hI,h5,aY,hw,q0,hq,TF,hd];rfl
      ·exact⟨k+1,by simp only[EV,seval,hI],.inr ⟨by rw[hs];simp,_,by simp only[EV,seval]<;>rfl,(by simp only[EV,seval]<;>omega),(by rw[hs];simp only[EV,seval]<;>rfl)⟩,by omega,rfl⟩
     ·apply oN (ns.length-(k+1))
      ·simp only[ZZ,seval,hI,h5,Gx,aY,hw,q0,hq,TF,hd];rfl
      ·exact⟨k+1,by simp only[EV,seval,hI],.inr ⟨by rw[hs];simp,_,by simp only[EV,seval]<;>rfl,(by simp only[EV,seval]<;>omega),(by rw[hs];simp only[EV,seval]<;>rfl)⟩,by omega,rfl⟩
    ·have hq:((nd ns k).up == i)=false:=by simp[hu]
     have hs:Ts ns i (k+1)=Ts ns i k:=by simp only[Ts,hu,if_false]
     apply oN (ns.length-(k+1))
     ·simp only[ZZ,seval,hI,aY,hw,q0,hq,TF,hd];rfl
     ·exact⟨k+1,by simp only[EV,seval,hI],by rw[hs];simpa only[EV,seval] using h5,by omega,rfl⟩
   ·obtain rfl:k=ns.length:=by omega
    apply oT (.exit 0)
    ·simp only[ZZ,seval,hI,aY];rfl
    ·exact⟨rfl,by simpa only[EV,seval] using h5⟩
  case start=>exact⟨0,(by simp only[EV,seval]),.inl ⟨rfl,(by simp only[EV,seval])⟩,by omega,rfl⟩
  case rest =>
   rintro e st ⟨rfl,⟨hy,h5⟩|⟨hy,g,h5,hg,As⟩⟩
   ·rw[hy,Xk];simp only[ZZ,seval,h5];exact bQ rfl (by simp only[EV,seval]) (.v _)
   ·rw[ZQ hy];simp only[ZZ,seval,h5,As];exact tU rfl (by simp only[EV,seval];rfl) (by simp only[EV,seval,As]) (gI _)
 ·have hd:(decide (0≤i) && decide (i<ns.length))=false:=by
   rw[← Bool.not_eq_true];simpa using hm
  rw[ML hu hr hm,Xk];by_cases h0:(0:Int)<ns.length
  ·simp only[ZZ,seval,He,TF,hd,h0];exact bQ rfl (by simp only[EV,seval]) (.v _)
  ·simp only[ZZ,seval,He,TF,hd,h0];exact bQ rfl (by simp only[EV,seval]) (.v _)
theorem aKQ (ns:List Node) (hu:gL ns) (hr:(nd ns 0).up=-1) (hn:(ns.length:Int)<1000000) (i:Int) (h:wR ns i≠[]) (st:St) (d:Nat):aM (aB Tryz.prog) 245 [.agg (cJ ⟨ns⟩),.v (.int .i64 i)] st (some d)=some { dst:=some d,val:=.own d (st.aT d),new:=some (d,[.row 3 1 (wR ns i).length (aK (wR ns i))])}:=by
 have hc:=aKO ns hu hr hn i
 rw[ZQ h] at hc;exact jF (bE (lX _) (.v _)) hc
theorem aFh (ns:List Node) (hu:gL ns) (hr:(nd ns 0).up=-1) (hn:(ns.length:Int)<1000000) (i:Int) (h:wR ns i=[]) (st:St) (d:Option Nat):aM (aB Tryz.prog) 245 [.agg (cJ ⟨ns⟩),.v (.int .i64 i)] st d=some { dst:=d,val:=.v (.slice none 0 0)}:=by
 have hc:=aKO ns hu hr hn i
 rw[h,Xk] at hc;exact bC (bE (lX _) (.v _)) hc (.v _)
end Go.Ab.Tryz
namespace Go.Ab.Tryz
open Classical Go.Proofs Go.Ab
end Go.Ab.Tryz
namespace Go.Ab.Tryz
open Classical Go.Proofs Go.Ab
theorem Xl [Ext] {P:Program} {f:Nat} {fn:Func} {st:St} {e:Ex} {r:ResultVar} {x y:AV} (hk:Ext.qR f=true) (he:e=.ret∨e=.normal) (hr:fn.results.toList=[r]) (h1:bY P st r=some x) (hn:(lY x).Nodup) (hy:Cy st x=some y):At P f fn (e,st)=some y:=by
 have h:jS P f fn st=some y:=by
  unfold jS;rw[hk,if_pos rfl];unfold Nk;rw[hr];simp only[rM,h1,cT,if_pos hn,hy]
 rcases he with rfl|rfl<;>exact h
theorem MM [Ext] {P:Program} {f:Nat} {fn:Func} {st:St} {e:Ex} {r1 r2:ResultVar} {x1 x2 y:AV} (hk:Ext.qR f=true) (he:e=.ret∨e=.normal) (hr:fn.results.toList=[r1,r2]) (h1:bY P st r1=some x1) (h2:bY P st r2=some x2)
 (hn:(lY (.eG [x1,x2])).Nodup) (hy:Cy st (.eG [x1,x2])=some y):At P f fn (e,st)=some y:=by
 have h:jS P f fn st=some y:=by
  unfold jS;rw[hk,if_pos rfl];unfold Nk;rw[hr];simp only[List.map_cons,List.map_nil,rM,h1,h2,cT,cP,Option.map_some,if_pos hn,hy]
 rcases he with rfl|rfl<;>exact h
theorem EZ {st:St} {s g e sz n:Nat} {cs:List AV} (h:st.heap s g=some (.row e sz n cs)) (hf:∀c∈cs,Flat c):sF st (.agg [.own s g])=some (.agg [.uniq e sz n cs]):=by
 simp only[sF,List.map_cons,List.map_nil,kM,if_neg (nA s g),h,if_pos hf,cP,Option.map_some]
theorem D3 (st:St):sF st (.agg [.v (.slice none 0 0)])=some (.agg [.v (.slice none 0 0)]):=by
 simp only[sF,List.map_cons,List.map_nil,kM,if_pos (Flat.v _),cP,Option.map_some]
theorem ZR (st:St) (x:Value):sF st (.v x)=some (.v x):=by simp only[sF,kM,if_pos (Flat.v x)]
theorem FB {st:St} {a b x y:AV} (h1:sF st a=some x) (h2:sF st b=some y):Cy st (.eG [a,b])=some (.eG [x,y]):=by
 simp only[Cy,List.map_cons,List.map_nil,h1,h2,cP,Option.map_some]
theorem D4 {st:St} {cs:List AV} {x:AV} (h1:sF st (.agg cs)=some x):Cy st (.agg cs)=some x:=h1
theorem Kt (e sz n:Nat) (cs:List AV):¬Flat (.uniq e sz n cs):=by intro h;cases h
theorem D5 {e sz n:Nat} {cs:List AV} {st:St} {d:Nat}:jC (.agg [.uniq e sz n cs]) st (some d)=some { dst:=some d,val:=.agg [.own d (st.aT d)],new:=some (d,[.row e sz n cs])}:=by
 have hn:¬Flat (.agg [.uniq e sz n cs]):=by intro h;cases h with|agg _ h=>exact Kt e sz n cs (h _ (by simp))
 unfold jC;rw[if_neg hn];rfl
theorem D6 {e sz n:Nat} {cs:List AV} {x:Value} {st:St} {d:Nat}:jC (.eG [.agg [.uniq e sz n cs],.v x]) st (some d)=some { dst:=some d,val:=.eG [.agg [.own d (st.aT d)],.v x],new:=some (d,[.row e sz n cs])}:=by
 have hn:¬Flat (.eG [.agg [.uniq e sz n cs],.v x]):=by
  intro h;cases h with
  | eG _ h =>
    have:=h (.agg [.uniq e sz n cs]) (by simp)
    cases this with
    | agg _ h=>exact Kt e sz n cs (h _ (by simp))
 unfold jC;rw[if_neg hn];rfl
theorem aCE {call:Nat→List AV→Option AV} {g:Nat} {args:List AV} {d e sz n:Nat} {cs:List AV} {st:St} (hf:∀x∈args,Flat x) (h:call g args=some (.agg [.uniq e sz n cs])):aM call g args st (some d)=some { dst:=some d,val:=.agg [.own d (st.aT d)],new:=some (d,[.row e sz n cs])}:=by
 unfold aM;rw[if_pos hf,h];exact D5
theorem aKR {call:Nat→List AV→Option AV} {g:Nat} {xs:List AV} {d e sz n:Nat} {cs:List AV} {x:Value} {fl:Bool} {st:St} (h:call g xs=some (.eG [.agg [.uniq e sz n cs],.v x])) (hm:∀c∈cs,iE c):uD call g (some xs) fl st (some d)=some { dst:=some d,val:=.eG [.agg [.own d (st.aT d)],.v x],new:=some (d,[.row e sz n cs])}:=by
 have ZS:Wq (.eG [.agg [.uniq e sz n cs],.v x]):=by
  intro y hy;rcases List.mem_cons.1 hy with rfl|hy
  ·intro c hc;simp at hc
   subst hc;exact hm
  ·simp at hy
   subst hy;exact .v _
 unfold uD;simp only[cO,h,ZS,or_true,if_true];exact D6
theorem aKS {call:Nat→List AV→Option AV} {g:Nat} {xs:List AV} {x y:Value} {fl:Bool} {st:St} {d:Option Nat} (h:call g xs=some (.eG [.agg [.v y],.v x])):uD call g (some xs) fl st d=some { dst:=d,val:=.eG [.agg [.v y],.v x]}:=by
 have hf:∀z∈[AV.agg [.v y],.v x],Flat z:=bE (.agg _ (cU (.v _))) (.v _)
 refine D7 h ?_ (.eG _ hf)
 intro z hz;rcases List.mem_cons.1 hz with rfl|hz
 ·intro c hc;simp at hc;subst hc;exact .v _
 ·simp at hz;subst hz;exact .v _
theorem ZT {z:Nat} {α:Type} (f:α→List AV) (hf:∀x,(f x).length=z):∀(l:List α) (i o:Nat) (hi:i<l.length),o<z→(l.flatMap f)[i * z+o]? = (f l[i])[o]?
 | [],i,o,hi,_=>by simp at hi
 | a :: l,0,o,_,ho=>by
   simp only[List.flatMap_cons,Nat.zero_mul,Nat.zero_add,List.getElem_cons_zero];rw[List.getElem?_append_left (by rw[hf];exact ho)]
 | a :: l,i+1,o,hi,ho=>by
   have ih:=ZT f hf l i o (by simpa using hi) ho
   simp only[List.flatMap_cons,List.getElem_cons_succ];rw[List.getElem?_append_right (by rw[hf,Nat.succ_mul];omega),hf,show (i+1) * z+o-z=i * z+o by rw[Nat.succ_mul];omega]
   exact ih
theorem ZU {z:Nat} {α:Type} (f:α→List AV) (hf:∀x,(f x).length=z) (o e:Nat) (xs:List AV) (hoe:o≤e) (he:e≤z):∀(l:List α) (i:Nat) (hi:i<l.length) (y:α),dS (f l[i]) o xs e=f y→dS (l.flatMap f) (i * z+o) xs (i * z+e)=(l.set i y).flatMap f
 | [],i,hi,_,_=>by simp at hi
 | a :: l,0,_,y,h=>by
   simp only[List.flatMap_cons,Nat.zero_mul,Nat.zero_add,List.set_cons_zero,List.getElem_cons_zero] at h ⊢;rw[← h];unfold dS;rw[List.take_append_of_le_length (by rw[hf];omega),List.drop_append_of_le_length (by rw[hf];omega)]
   simp
 | a :: l,i+1,hi,y,h=>by
   have ih:=ZU f hf o e xs hoe he l i (by simpa using hi) y (by simpa using h)
   simp only[List.flatMap_cons,List.set_cons_succ];rw[← ih];unfold dS;have h1:(i+1) * z+o=z+(i * z+o):=by rw[Nat.succ_mul];omega
   have h2:(i+1) * z+e=z+(i * z+e):=by rw[Nat.succ_mul];omega
   rw[h1,h2,List.take_append,List.drop_append,List.take_of_length_le (by rw[hf];omega),List.drop_of_length_le (by rw[hf];omega),hf,Nat.add_sub_cancel_left,Nat.add_sub_cancel_left]
   simp
theorem D8 {l:List Bool} {xs:List AV} (h:iS l xs xs):∀c∈xs,iE c:=by
 obtain⟨us,vs,rfl,_,_⟩:=Da _ _ _ h
 intro c hc;obtain⟨x,_,rfl⟩:=List.mem_map.1 hc
 exact .v _
theorem Xm (l:List Node):∀c∈bZ l,iE c:=fun c hc=>by
 obtain⟨n,_,h⟩:=List.mem_flatMap.1 hc
 exact D8 (Xn n n) c h
theorem D9 {l:List Node} {i:Int} (h0:0≤i) (h1:i<l.length) (o:Nat) (ho:o<240):(bZ l)[i.toNat * 240+o]? = (fK (nd l i))[o]?:=by
 obtain⟨h,e⟩:=Lr h0 h1
 rw[e];exact ZT fK vO l i.toNat o h ho
theorem E0 {l:List Node} {i:Int} (h0:0≤i) (h1:i<l.length) {o e:Nat} {xs:List AV} (hoe:o≤e) (he:e≤240) {y:Node} (h:dS (fK (nd l i)) o xs e=fK y):dS (bZ l) (i.toNat * 240+o) xs (i.toNat * 240+e)=bZ (l.set i.toNat y):=by
 obtain⟨hi,e'⟩:=Lr h0 h1
 rw[e'] at h;exact ZU fK vO o e xs hoe he l i.toNat hi y h
def Xo (n:Node) (s:Int):Node:={ n with status:=s }
def setAt (ns:List Node) (i s:Int):List Node:=ns.set i.toNat (Xo (nd ns i) s)
theorem UI {l:List Node} {i s:Int} (h0:0≤i) (h1:i<l.length):dS (bZ l) (i.toNat * 240+239) [.v (.int .i64 s)] (i.toNat * 240+240)=bZ (setAt l i s) :=
 E0 h0 h1 (by decide) (by decide) (Hi (nd l i) _)
theorem UJ {l:List Node} {i:Int} (h0:0≤i) (h1:i<l.length):(bZ l)[i.toNat * 240+239]? = some (.v (.int .i64 (nd l i).status)):=by
 rw[D9 h0 h1 239 (by decide)]
 exact Ga (nd l i)
theorem Dd (ns:List Node) (i s:Int):(setAt ns i s).length=ns.length:=by simp[setAt]
def FC (to never:Int):List Int→List Node→Option (List Node)
 | [],ns=>some ns
 | i :: l,ns=>if (nd ns i).status=never then none else FC to never l (setAt ns i to)
theorem HE {to never:Int}:∀(l:List Int) (ns r:List Node),FC to never l ns=some r→r.length=ns.length
 | [],ns,r,h=>by simp only[FC,Option.some.injEq] at h;rw[h]
 | i :: l,ns,r,h=>by
   simp only[FC] at h;split at h
   ·cases h
   ·rw[HE l _ r h,Dd]
theorem UK {l:List Node} (h:0<l.length):bZ l≠[]:=by
 intro he;have:=congrArg List.length he
 rw[Ls] at this;simp only[List.length_nil] at this;omega
theorem aQe (l:List Node) (h0:0<l.length) (hn:(l.length:Int)<1000000):aB Tryz.prog 192 [.sl l.length (bZ l)]=some (.uniq 76 240 l.length (bZ l)):=by
 rw[cL Tryz.func192 rfl aKT rfl];have gP:=UK h0
 have ha:=fun s g=>Nz (e:=76) (sz:=240) (by_:=352) (s:=s) (g:=g) (n:=l.length) (cs:=bZ l) (by simp) (by omega) (by unfold maxLen;omega)
 simp only[ZZ,seval,gP,ha];exact tU rfl (by simp only[EV,seval];rfl) (by simp only[EV,seval]) (iF _)
theorem aQf (l:List Node) (h0:0<l.length) (hn:(l.length:Int)<1000000) (st:St) (d:Nat):aM (aB Tryz.prog) 192 [.sl l.length (bZ l)] st (some d)=some { dst:=some d,val:=.own d (st.aT d),new:=some (d,[.row 76 240 l.length (bZ l)])}:=jF (cU (.sl _ _ (iF l))) (aQe l h0 hn)
theorem aQg (ns:List Node) (h0:0<ns.length) (hn:(ns.length:Int)<1000000):aB Tryz.prog 165 [.agg (cJ ⟨ns⟩)]=some (.agg [.uniq 76 240 ns.length (bZ ns)]):=by
 rw[cL Tryz.func165 rfl aKU rfl];have hK:=aQf ns h0 hn
 simp only[ZZ,seval,hK];refine Xl rfl (.inl rfl) rfl (x:=.agg [.own 5 0]) (by simp only[bY,ZZ,seval]) (by simp[lY,jE,iB]) (D4 (EZ (by simp only[EV,seval]) (iF _)))
theorem aQh (ns:List Node) (h0:0<ns.length) (hn:(ns.length:Int)<1000000) (st:St) (d:Nat):aM (aB Tryz.prog) 165 [.agg (cJ ⟨ns⟩)] st (some d)=some { dst:=some d,val:=.agg [.own d (st.aT d)],new:=some (d,[.row 76 240 ns.length (bZ ns)])}:=aCE (cU (lX _)) (aQg ns h0 hn)
theorem aCF {l:List Int} {k:Nat} (h:k<l.length):l.drop k=it l k :: l.drop (k+1):=by
 rw[List.drop_eq_getElem_cons h];simp[it,h]
theorem aKV (s g:Nat) (x:Value):(lY (.eG [.agg [.own s g],.v x])).Nodup:=by simp[lY,jE,iB]
theorem aKW (y x:Value):(lY (.eG [.agg [.v y],.v x])).Nodup:=by simp[lY,jE,iB]
def CH (e:Int):AV:=.eG [.agg [.v (.slice none 0 0)],.v (.int .i64 e)]
def chS (o:Option (List Node)):AV :=
 match o with
 | none=>.eG [.agg [.v (.slice none 0 0)],.v (.bool false)]
 | some r=>.eG [.agg [.uniq 76 240 r.length (bZ r)],.v (.bool true)]
theorem aKX (ns:List Node) (h0:0<ns.length) (hn:(ns.length:Int)<1000000) (l:List Int) (hl:(l.length:Int)<1000000) (hm:∀x∈l,0≤x∧x<ns.length) (to never:Int) :
 aB Tryz.prog 247 [.agg (cJ ⟨ns⟩),.sl l.length (aK l),.v (.int .i64 to),.v (.int .i64 never)]=some (chS (FC to never l ns)):=by
 rw[cL Tryz.func247 rfl aKY rfl];simp only[ZZ,seval,hn];refine jV (fun n st=>∃(k:Nat) (cur:List Node),(st.env 1=.sl l.length (aK l)∧st.env 2=.v (.int .i64 to)∧st.env 3=.v (.int .i64 never)∧st.env 8=.ptr 8 0 0∧st.heap 8 0=some (.cells [.v (.slice none 0 0)])∧st.env 10=.ptr 10 0 0∧st.heap 10 0=some (.cells [.own 14 0])∧st.heap 14 0=some (.row 76 240 cur.length (bZ cur))∧st.env 11=.v (.int .i64 k))∧cur.length=ns.length∧FC to never l ns=FC to never (l.drop k) cur∧k≤l.length∧n=l.length-k)
  (fun e st=>(e=.ret∧FC to never l ns=none∧st.env 8=.ptr 8 0 0∧st.heap 8 0=some (.cells [.v (.slice none 0 0)])∧st.env 9=.v (.bool false))∨(e=.exit 0∧∃r,FC to never l ns=some r∧st.env 8=.ptr 8 0 0∧st.heap 8 0=some (.cells [.v (.slice none 0 0)])∧st.env 10=.ptr 10 0 0∧st.heap 10 0=some (.cells [.own 14 0])∧st.heap 14 0=some (.row 76 240 r.length (bZ r)))) l.length ?step ?start ?rest
 case step =>
  rintro n st ⟨k,cur,hI,zK,hc,hk,Gk⟩
  by_cases aY:(k:Int)<l.length
  ·have q0:(0:Int)≤k:=by omega
   have hw:IntKind.i64.wrap ((k:Int)+1)=((k+1:Nat):Int):=by rw[Gl _ (by omega) (by omega)];omega
   obtain⟨x0,x1⟩:=hm _ (Er q0 aY)
   have x2:it l k<cur.length:=by omega
   rw[aCF (by omega)] at hc
   simp only[FC] at hc;have hg:=UJ x0 x2
   by_cases hs:(nd cur (it l k)).status=never
   ·rw[if_pos hs] at hc;have hb:((nd cur (it l k)).status == never)=true:=by simp[hs]
    apply oT (.ret)
    ·simp only[ZZ,seval,hI,aY,q0,x0,x2,hg,hb];rfl
    ·exact .inl ⟨rfl,hc,by simp only[EV,seval,hI],by simp only[EV,seval,hI],by simp only[EV,seval,hI]⟩
   ·rw[if_neg hs] at hc;have hb:((nd cur (it l k)).status == never)=false:=by simp[hs]
    have hu:=UI (s:=to) x0 x2
    have hle:(it l k).toNat * 240+239+1≤cur.length * 240:=by
     have:((it l k).toNat+1) * 240≤cur.length * 240:=Nat.mul_le_mul_right _ (by omega)
     omega
    have hle2:(it l k).toNat * 240+240≤cur.length * 240:=by omega
    apply oN (l.length-(k+1))
    ·simp only[ZZ,seval,hI,aY,q0,x0,x2,hg,hb,hu,hle,hle2,hw];rfl
    ·exact⟨k+1,setAt cur (it l k) to,by simp only[EV,seval,hI,Dd],by rw[Dd];exact zK,hc,by omega,rfl⟩
  ·obtain rfl:k=l.length:=by omega
   rw[List.drop_length] at hc;apply oT (.exit 0)
   ·simp only[ZZ,seval,hI,aY];rfl
   ·exact .inr ⟨rfl,cur,hc,by simp only[EV,seval,hI]⟩
 case start=>exact⟨0,ns,by simp only[EV,seval]<;>rfl,rfl,rfl,by omega,by omega⟩
 case rest =>
  rintro e st (⟨rfl,hc,hI⟩|⟨rfl,r,hc,hI⟩)
  ·rw[hc];simp only[ZZ,seval];exact MM rfl (.inl rfl) rfl (x1:=.agg [.v (.slice none 0 0)]) (x2:=.v (.bool false)) (by simp only[bY,ZZ,seval,hI]) (by simp only[bY,ZZ,seval,hI]) (aKW _ _) (FB (D3 _) (ZR _ _))
  ·rw[hc];simp only[ZZ,seval,hI];exact MM rfl (.inl rfl) rfl (x1:=.agg [.own 14 0]) (x2:=.v (.bool true)) (by simp only[bY,ZZ,seval,hI]) (by simp only[bY,ZZ,seval,hI]) (aKV _ _ _) (FB (EZ (by simp only[EV,seval,hI]) (iF _)) (ZR _ _))
theorem HF {ns:List Node} (hu:gL ns) {c:Int} (c0:0≤c) (c1:c<ns.length):0<(path ns c).length:=List.length_pos_iff.2 fun h=>by
 have:=vL hu c0 c1
 rw[h] at this;cases this
theorem E1 {ns:List Node} (hu:gL ns) {c:Int} (c0:0≤c) (c1:c<ns.length):it (path ns c) ((path ns c).length-1:Int)=c:=by
 by_cases h:c=0
 ·subst h;rw[oJ (by omega)]
  rfl
 ·rw[mX hu (by omega) c1]
  exact vN (by simp)
end Go.Ab.Tryz
