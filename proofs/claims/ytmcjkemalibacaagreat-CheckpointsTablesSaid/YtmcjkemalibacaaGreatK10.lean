/-
  Part 10 of the proof: an evaluator of programs, its soundness, and what functions of this program compute.
-/
import Derived.Test.YtmcjkemalibacaaGreatK9
set_option linter.all false
set_option maxRecDepth 20000
set_option maxHeartbeats 40000000
namespace Go.Ab.Tryz
open Classical Go.Proofs Go.Ab
theorem q49 (args:List AV) (st:St) (d:Option Nat):aN (aB Tryz.prog) 49 args st d=tX (aB Tryz.prog) 49 (cM (args.map (fO st))) (decide (∀x∈args,Flat x)) st d:=jS _ _ _ _ _
theorem c49 (l:List Int) (a:Int) (hn:(l.length:Int)<1000000):aB Tryz.prog 49 [.sl l.length (aK l),.v (.int .i64 a)]=some (.v (.bool (decide (a∈l)))):=by
 rw[cL Tryz.func49 rfl aJP rfl];simp only[ZZ,seval];refine kI (fun n st=>∃i:Int,st.env 0=.sl l.length (aK l)∧st.env 1=.v (.int .i64 a)∧st.env 5=.v (.int .i64 i)∧0≤i∧i≤l.length∧n=(l.length-i).toNat∧∀j,0≤j→j<i→it l j≠a)
  (fun e st=>(e=.ret∧st.env 4=.v (.bool (decide (a∈l))))∨(e=.exit 0∧decide (a∈l)=false)) l.length ?step ?start ?rest
 case step =>
  rintro n st ⟨i,h0,h1,h5,i0,i1,Gj,hb⟩
  by_cases bA:i<l.length
  ·have hw:IntKind.i64.wrap (i+1)=i+1:=Fx _ (by omega) (by omega)
   obtain⟨hi,he⟩:=xJ i0 bA
   by_cases hr:it l i=a
   ·have hm:decide (a∈l)=true:=by rw[decide_eq_true_eq,← hr,he];exact List.getElem_mem hi
    have hbq:(it l i == a)=true:=by simp[hr]
    apply oT (.ret)
    ·simp only[ZZ,seval,h0,h1,h5,bA,i0,hbq];rfl
    ·exact .inl ⟨rfl,by simp only[EV,seval,hm]⟩
   ·have hbq:(it l i == a)=false:=by simp[hr]
    apply oN ((l.length-(i+1)).toNat)
    ·simp only[ZZ,seval,h0,h1,h5,bA,i0,hbq,hw];rfl
    ·exact⟨i+1,by simp only[EV,seval,h0],by simp only[EV,seval,h1],(by simp only[EV,seval]),by omega,by omega,rfl,fun j j0 j1=>by
     rcases Int.lt_or_eq_of_le (show j≤i by omega) with h|rfl
     ·exact hb j j0 h
     ·exact hr⟩
  ·apply oT (.exit 0)
   ·simp only[ZZ,seval,h0,h1,h5,bA,i0];rfl
   ·exact .inr ⟨rfl,by
    rw[decide_eq_false_iff_not];intro hm;obtain⟨j,hj,rfl⟩:=List.getElem_of_mem hm
    exact hb j (by omega) (by omega) (by simp[it,hj])⟩
 case start=>exact⟨0,(by simp only[EV,seval]),(by simp only[EV,seval]),(by simp only[EV,seval]),by omega,by omega,by omega,fun j _ _=>by omega⟩
 case rest =>
  rintro e st (⟨rfl,h⟩|⟨rfl,h⟩)
  ·simp only[ZZ,seval];exact bX rfl h (.v _)
  ·simp only[ZZ,seval];exact bX rfl (by simp only[EV,seval,h]) (.v _)
theorem aJQ (a:Int):aB Tryz.prog 49 [.v (.slice none 0 0),.v (.int .i64 a)]=some (.v (.bool false)):=by
 rw[cL Tryz.func49 rfl aJP rfl];simp only[ZZ,seval,Gs,Int.natCast_zero,Int.lt_irrefl,decide_false];exact bX rfl (by simp only[EV,seval]) (.v _)
theorem k49 (l:List Int) (a:Int) (hn:(l.length:Int)<1000000) (fl:Bool) (st:St) (d:Option Nat):tX (aB Tryz.prog) 49 (some [.sl l.length (aK l),.v (.int .i64 a)]) fl st d=some { dst:=d,val:=.v (.bool (decide (a∈l)))}:=Qi (c49 l a hn)
theorem aO4 (a:Int) (fl:Bool) (st:St) (d:Option Nat):tX (aB Tryz.prog) 49 (some [.v (.slice none 0 0),.v (.int .i64 a)]) fl st d=some { dst:=d,val:=.v (.bool false)}:=Qi (aJQ a)
def gM (ns:List Node):Prop:=∀i:Int,0<i→i<ns.length→0≤(nd ns i).up∧(nd ns i).up<i
def Vz (ns:List Node):Nat→Int→List Int
 | 0,_=>[]
 | f+1,i=>if i=0 then [0] else Vz ns f (nd ns i).up++[i]
def path (ns:List Node) (i:Int):List Int:=if 0≤i∧i<ns.length then Vz ns (i.toNat+1) i else []
theorem Wa {ns:List Node} (h:gM ns):∀(f g:Nat) (i:Int),0≤i→i<ns.length→i.toNat<f→i.toNat<g→Vz ns f i=Vz ns g i
 | 0,_,i,_,_,h1,_=>by omega
 | f+1,0,i,_,_,_,h2=>by omega
 | f+1,g+1,i,i0,i1,h1,h2=>by
   simp only[Vz];by_cases hi:i=0
   ·rw[if_pos hi,if_pos hi]
   ·obtain⟨u0,u1⟩:=h i (by omega) i1
    rw[if_neg hi,if_neg hi,Wa h f g (nd ns i).up u0 (by omega) (by omega) (by omega)]
theorem rG {ns:List Node} (h:0<ns.length):path ns 0=[0]:=by
 unfold path;rw[if_pos ⟨by omega,by omega⟩]
 rfl
theorem pW {ns:List Node} (h:gM ns) {i:Int} (i0:0<i) (i1:i<ns.length):path ns i=path ns (nd ns i).up++[i]:=by
 obtain⟨u0,u1⟩:=h i i0 i1
 unfold path;rw[if_pos ⟨by omega,i1⟩,if_pos ⟨u0,by omega⟩]
 show Vz ns (i.toNat+1) i=_
 rw[Vz,if_neg (by omega)]
 rw[Wa h i.toNat ((nd ns i).up.toNat+1) (nd ns i).up u0 (by omega) (by omega) (by omega)]
theorem yN {ns:List Node} {i:Int} (h:¬(0≤i∧i<ns.length)):path ns i=[]:=if_neg h
theorem N2 {ns:List Node} (h:gM ns):∀(k:Nat) (i:Int),i.toNat=k→0≤i→i<ns.length→(path ns i).length≤i+1:=by
 intro k;induction k using Nat.strongRecOn with
 | _ k ih =>
   intro i hk i0 i1;by_cases hi:i=0
   ·subst hi;rw[rG (by omega)];simp
   ·obtain⟨u0,u1⟩:=h i (by omega) i1
    rw[pW h (by omega) i1]
    have:=ih (nd ns i).up.toNat (by omega) _ rfl u0 (by omega)
    simp only[List.length_append,List.length_singleton];omega
theorem Ax {ns:List Node} (h:gM ns) (i:Int):((path ns i).length:Int)≤ns.length:=by
 by_cases hi:0≤i∧i<ns.length
 ·have:=N2 h _ i rfl hi.1 hi.2;omega
 ·rw[yN hi];simp
theorem aO5 (ns:List Node) (i:Int) (h:¬(0≤i∧i<ns.length)):aB Tryz.prog 76 [.agg (cO ⟨ns⟩),.v (.int .i64 i)]=some (.v (.slice none 0 0)):=by
 rw[cL Tryz.func76 rfl aJR rfl];have hd:(decide (0≤i) && decide (i<ns.length))=false:=by
  rw[← Bool.not_eq_true];simpa using h
 simp only[ZZ,seval,SK,hd];exact bX rfl (by simp only[EV,seval]) (.v _)
theorem c76 (ns:List Node) (hu:gM ns) (hn:(ns.length:Int)<1000000):∀(k:Nat) (i:Int),i.toNat=k→0≤i→i<ns.length→aB Tryz.prog 76 [.agg (cO ⟨ns⟩),.v (.int .i64 i)]=some (.uniq 3 1 (path ns i).length (aK (path ns i))):=by
 intro k;induction k using Nat.strongRecOn with
 | _ k ih =>
   intro i hk i0 i1;have hd:(decide (0≤i) && decide (i<ns.length))=true:=by simp[i0,i1]
   rw[cL Tryz.func76 rfl aJR rfl];by_cases hi:i=0
   ·subst hi;simp only[ZZ,seval,SK,hd,i1,beq_self_eq_true];exact tO rfl (by simp only[EV,seval];rfl) (by simp only[EV,seval,rG (show 0<ns.length by omega)];rfl) (gF _)
   ·obtain⟨u0,u1⟩:=hu i (by omega) i1
    have hq:(i == 0)=false:=by simp[hi]
    have hr:=ih (nd ns i).up.toNat (by omega) _ rfl u0 (by omega)
    have hc:∀(st:St) (d:Nat),aN (aB Tryz.prog) 76 [.agg (cO ⟨ns⟩),.v (.int .i64 (nd ns i).up)] st (some d)=some { dst:=some d,val:=.own d (st.aQ d),new:=some (d,[.row 3 1 (path ns (nd ns i).up).length (aK (path ns (nd ns i).up))])}:=fun st d=>jF (bE (mC _) (.v _)) hr
    have hl:((path ns (nd ns i).up).length:Int)<1000000:=by have:=Ax hu (nd ns i).up;omega
    simp only[ZZ,seval,SK,hd,hq,i0,i1,hc,hl];exact tO rfl (by simp only[EV,seval];rfl) (by simp only[EV,seval,pW hu (show 0<i by omega) i1]) (gF _)
theorem k76 (ns:List Node) (hu:gM ns) (hn:(ns.length:Int)<1000000) (i:Int) (i0:0≤i) (i1:i<ns.length) (st:St) (d:Nat):aN (aB Tryz.prog) 76 [.agg (cO ⟨ns⟩),.v (.int .i64 i)] st (some d)=some { dst:=some d,val:=.own d (st.aQ d),new:=some (d,[.row 3 1 (path ns i).length (aK (path ns i))])}:=jF (bE (mC _) (.v _)) (c76 ns hu hn _ i rfl i0 i1)
theorem y8 (ns:List Node) (i:Int) (h:¬(0≤i∧i<ns.length)) (st:St) (d:Option Nat):aN (aB Tryz.prog) 76 [.agg (cO ⟨ns⟩),.v (.int .i64 i)] st d=some { dst:=d,val:=.v (.slice none 0 0)}:=bG (bE (mC _) (.v _)) (aO5 ns i h) (.v _)
def tP (ns:List Node) (a b:Int):Bool:=decide (a∈path ns b)
theorem c47 (ns:List Node) (hu:gM ns) (hn:(ns.length:Int)<1000000) (a b:Int):aB Tryz.prog 47 [.agg (cO ⟨ns⟩),.v (.int .i64 a),.v (.int .i64 b)]=some (.v (.bool (tP ns a b))):=by
 rw[cL Tryz.func47 rfl aO6 rfl];by_cases hb:0≤b∧b<ns.length
 ·have hl:((path ns b).length:Int)<1000000:=by have:=Ax hu b;omega
  simp only[ZZ,seval,k76 ns hu hn b hb.1 hb.2,q49,k49,hl];exact bX rfl (by simp only[EV,seval,tP]) (.v _)
 ·simp only[ZZ,seval,y8 ns b hb,q49,aO4];exact bX rfl (by simp only[EV,seval,tP,yN hb,List.not_mem_nil,decide_false]) (.v _)
theorem Nb (ns:List Node) (hu:gM ns) (hn:(ns.length:Int)<1000000) (a b:Int) (st:St) (d:Option Nat):aN (aB Tryz.prog) 47 [.agg (cO ⟨ns⟩),.v (.int .i64 a),.v (.int .i64 b)] st d=some { dst:=d,val:=.v (.bool (tP ns a b))}:=bG (mD (mC _) (.v _) (.v _)) (c47 ns hu hn a b) (.v _)
theorem aB3:Flat (.agg [.v (.slice none 0 0)]):=.agg _ (by simp;exact .v _)
theorem Ct (x m:Int) (hm:0≤m∧m<9223372036854775808):0≤IntKind.i64.wrap ↑(BitVec.ofInt IntKind.i64.bits x &&& BitVec.ofInt IntKind.i64.bits m).toNat∧IntKind.i64.wrap ↑(BitVec.ofInt IntKind.i64.bits x &&& BitVec.ofInt IntKind.i64.bits m).toNat≤m:=by
 have h0:(BitVec.ofInt IntKind.i64.bits x &&& BitVec.ofInt IntKind.i64.bits m).toNat≤(BitVec.ofInt IntKind.i64.bits m).toNat:=by rw[BitVec.toNat_and];exact Nat.and_le_right
 have hb:IntKind.i64.bits=64:=rfl
 have h:(BitVec.ofInt IntKind.i64.bits (m:Int)).toNat=m.toNat:=by
  rw[BitVec.toNat_ofInt,hb];omega
 rw[h] at h0;rw[Fx _ (by omega) (by omega)]
 omega
theorem TF {i n:Int} (h:0≤i) (hn:0<n):0≤i.tdiv n∧i.tdiv n≤i:=by
 rw[Int.tdiv_eq_ediv_of_nonneg h];exact⟨Int.ediv_nonneg h (by omega),Int.ediv_le_self n h⟩
theorem cP {i n:Int} (h:0≤i) (hn:0<n):0≤i.tmod n∧i.tmod n<n:=by
 rw[Int.tmod_eq_emod_of_nonneg h];exact⟨Int.emod_nonneg i (by omega),Int.emod_lt_of_pos i hn⟩
theorem Ay {i:Int} (h:0≤i) (s:Nat):0≤i.fdiv (2 ^ s):=by
 have h2:(0:Int)≤2 ^ s:=Int.pow_nonneg (by decide)
 rw[Int.fdiv_eq_ediv_of_nonneg _ h2];exact Int.ediv_nonneg h h2
theorem aJS (l:List Int) (hl:(l.length:Int)≤9223372036854775807) (i:Int) (i0:0≤i) (i1:i<1000000):∃k:Int,aB Tryz.prog 145 [.sl l.length (aK l),.v (.int .i64 i)]=some (.v (.int .i64 k))∧0≤k∧k≤17777215:=by
 rw[cL Tryz.func145 rfl N3 rfl];by_cases h:(l.length:Int)=0
 ·have hq:((l.length:Int) == 0)=true:=by simp[h]
  simp only[ZZ,seval,hq];obtain⟨b1,b2⟩:=Ct i 65535 (by decide)
  exact⟨_,bX rfl (by simp only[EV,seval]<;>rfl) (.v _),b1,by omega⟩
 ·have hq:((l.length:Int) == 0)=false:=by rw[beq_eq_false_iff_ne];exact h
  obtain⟨m1,m2⟩:=cP (n:=(l.length:Int)) i0 (by omega)
  obtain⟨d1,d2⟩:=TF (n:=(l.length:Int)) i0 (by omega)
  simp only[ZZ,seval,hq,h,m1,m2];obtain⟨b1,b2⟩:=Ct (it l (i.tmod ↑l.length)) 16777215 (by decide)
  refine⟨_,bX rfl (by simp only[EV,seval]<;>rfl) (.v _), ?_, ?_⟩
  all_goals
   rw[Fx (i.tdiv ↑l.length) (by omega) (by omega),Fx _ (by omega) (by omega)]
   omega
noncomputable def Jo (l:List Int) (i:Int):Int:=if h:((l.length:Int)≤9223372036854775807∧0≤i∧i<1000000) then Classical.choose (aJS l h.1 i h.2.1 h.2.2) else 0
theorem Gt (l:List Int) (hl:(l.length:Int)≤9223372036854775807) (i:Int) (i0:0≤i) (i1:i<1000000):aB Tryz.prog 145 [.sl l.length (aK l),.v (.int .i64 i)]=some (.v (.int .i64 (Jo l i)))∧0≤Jo l i∧Jo l i≤17777215:=by
 have h:((l.length:Int)≤9223372036854775807∧0≤i∧i<1000000):=⟨hl,i0,i1⟩
 unfold Jo;rw[dif_pos h];exact Classical.choose_spec (aJS l h.1 i h.2.1 h.2.2)
theorem Nc (l:List Int) (hl:(l.length:Int)≤9223372036854775807) (i:Int) (i0:0≤i) (i1:i<1000000) (st:St) (d:Option Nat):aN (aB Tryz.prog) 145 [.sl l.length (aK l),.v (.int .i64 i)] st d=some { dst:=d,val:=.v (.int .i64 (Jo l i))}:=bG (bE (Kx l) (.v _)) (Gt l hl i i0 i1).1 (.v _)
def mkRoot (n:Int):cJ:=((dR.set 0 (IntKind.u8.wrap n)).set 1 (IntKind.u8.wrap (n.fdiv (2 ^ min 8 IntKind.i64.bits)))).set 31 (IntKind.u8.wrap (IntKind.i64.wrap (n * 7)))
theorem c30 (n:Int):aB Tryz.prog 30 [.v (.int .i64 n)]=some (.agg (bD (mkRoot n))):=by
 rw[cL Tryz.func30 rfl aO7 rfl];simp only[ZZ,seval,Wb,Nat.reduceLT];exact fK rfl (by simp only[EV,seval];rfl) (by simp only[ZZ,seval];rfl) (.agg _ (dT _))
theorem Qg (n:Int) (st:St) (d:Option Nat):aN (aB Tryz.prog) 30 [.v (.int .i64 n)] st d=some { dst:=d,val:=.agg (bD (mkRoot n))}:=bG (cU (.v _)) (c30 n) (qR _)
theorem aO8 (b:Block) (s:Int):aB Tryz.prog 157 [.agg (aV b),.v (.int .i64 s)]=some (.agg (cO ⟨[⟨b,-1,s⟩]⟩)):=by
 rw[cL Tryz.func157 rfl aJT rfl];simp only[ZZ,seval];exact eG rfl (by simp only[EV,seval];rfl) (by simp only[ZZ,seval];rfl) (by simp only[EV,seval,Option.map_some]<;>rfl)
theorem aO9 (b:Block) (s:Int) (st:St) (d:Option Nat):aN (aB Tryz.prog) 157 [.agg (aV b),.v (.int .i64 s)] st d=some { dst:=d,val:=.agg (cO ⟨[⟨b,-1,s⟩]⟩)}:=bG (bE (tF _) (.v _)) (aO8 b s) (mC _)
theorem y9 (i:Int) (st:St) (d:Option Nat):aN (aB Tryz.prog) 186 [.v (.int .i64 i)] st d=some { dst:=d,val:=.v (.bool (TG i))}:=bG (cU (.v _)) (aPa i) (.v _)
theorem mQ (ns:List Node) (r:cJ) (hn:(ns.length:Int)<1000000) (st:St) (d:Option Nat):aN (aB Tryz.prog) 46 [.agg (cO ⟨ns⟩),.agg (bD r)] st d=some { dst:=d,val:=.v (.int .i64 (aM ns r))}:=bG (bE (mC _) (qR _)) (c46 ns r hn) (.v _)
noncomputable def BC (ns:List Node) (b:Block) (s:Int):Int :=
 if TG s=false then 2 else if 0≤aM ns b.root then 9 else if aM ns b.parent<0 then 10 else if b.slot≤(nd ns (aM ns b.parent)).block.slot then 14 else if 4096≤(ns.length:Int) then 11 else 0
noncomputable def Gu (ns:List Node) (b:Block) (s:Int):AV :=
 if BC ns b s=0 then .eE [.agg (cO ⟨ns++[⟨b,aM ns b.parent,s⟩]⟩),.v (.int .i64 0)] else .eE [.agg [.v (.slice none 0 0)],.v (.int .i64 (BC ns b s))]
theorem eZ (ns:List Node) (r:cJ):-1≤aM ns r∧aM ns r<ns.length:=by
 unfold aM;cases h:ns.findIdx? (fun n=>decide (n.block.root=r)) with
 | none=>simp only;omega
 | some k =>
   have:=(List.findIdx?_eq_some_iff_getElem.1 h).1
   simp only;omega
theorem aPb (ns:List Node) (hn:(ns.length:Int)<1000000) (b:Block) (s:Int):aB Tryz.prog 149 [.agg (cO ⟨ns⟩),.agg (aV b),.v (.int .i64 s)]=some (Gu ns b s):=by
 rw[cL Tryz.func149 rfl aJU rfl];have hu:=eZ ns b.parent
 cases hs:TG s
 ·simp only[ZZ,seval,y9,hs];rw[show Gu ns b s=.eE [.agg [.v (.slice none 0 0)],.v (.int .i64 2)] from by simp[Gu,BC,hs]]
  exact dK rfl (by simp only[bY,ZZ,seval];rfl) (by simp only[bY,EV,seval]<;>rfl) (by simp only[EV,seval]<;>rfl) (by simp only[EV,seval]<;>rfl)
 by_cases h1:0≤aM ns b.root
 ·simp only[ZZ,seval,y9,hs,mQ,hn,h1];rw[show Gu ns b s=.eE [.agg [.v (.slice none 0 0)],.v (.int .i64 9)] from by simp[Gu,BC,hs,h1]]
  exact dK rfl (by simp only[bY,ZZ,seval];rfl) (by simp only[bY,EV,seval]<;>rfl) (by simp only[EV,seval]<;>rfl) (by simp only[EV,seval]<;>rfl)
 by_cases h2:aM ns b.parent<0
 ·simp only[ZZ,seval,y9,hs,mQ,hn,h1,h2];rw[show Gu ns b s=.eE [.agg [.v (.slice none 0 0)],.v (.int .i64 10)] from by simp[Gu,BC,hs,h1,h2]]
  exact dK rfl (by simp only[bY,ZZ,seval];rfl) (by simp only[bY,EV,seval]<;>rfl) (by simp only[EV,seval]<;>rfl) (by simp only[EV,seval]<;>rfl)
 have u0:0≤aM ns b.parent:=by omega
 have u1:aM ns b.parent<ns.length:=hu.2
 by_cases h3:b.slot≤(nd ns (aM ns b.parent)).block.slot
 ·simp only[ZZ,seval,y9,hs,mQ,hn,h1,h2,u0,u1,h3];rw[show Gu ns b s=.eE [.agg [.v (.slice none 0 0)],.v (.int .i64 14)] from by simp[Gu,BC,hs,h1,h2,h3]]
  exact dK rfl (by simp only[bY,ZZ,seval];rfl) (by simp only[bY,EV,seval]<;>rfl) (by simp only[EV,seval]<;>rfl) (by simp only[EV,seval]<;>rfl)
 by_cases h4:4096≤(ns.length:Int)
 ·simp only[ZZ,seval,y9,hs,mQ,hn,h1,h2,u0,u1,h3,h4];rw[show Gu ns b s=.eE [.agg [.v (.slice none 0 0)],.v (.int .i64 11)] from by simp[Gu,BC,hs,h1,h2,h3,h4]]
  exact dK rfl (by simp only[bY,ZZ,seval];rfl) (by simp only[bY,EV,seval]<;>rfl) (by simp only[EV,seval]<;>rfl) (by simp only[EV,seval]<;>rfl)
 ·simp only[ZZ,seval,y9,hs,mQ,hn,h1,h2,u0,u1,h3,h4];rw[show Gu ns b s=.eE [.agg (cO ⟨ns++[⟨b,aM ns b.parent,s⟩]⟩),.v (.int .i64 0)] from by simp[Gu,BC,hs,h1,h2,h3,h4]]
  exact dK rfl (by simp only[bY,ZZ,seval];rfl) (by simp only[bY,EV,seval]<;>rfl) (by simp only[EV,seval]<;>rfl) (by simp only[EV,seval]<;>rfl)
theorem z4 (ns:List Node) (b:Block) (s:Int):Flat (Gu ns b s):=by
 unfold Gu;split
 ·exact .eE _ (bE (mC _) (.v _))
 ·exact .eE _ (bE aB3 (.v _))
theorem aPc (ns:List Node) (hn:(ns.length:Int)<1000000) (b:Block) (s:Int) (st:St) (d:Option Nat):aN (aB Tryz.prog) 149 [.agg (cO ⟨ns⟩),.agg (aV b),.v (.int .i64 s)] st d=some { dst:=d,val:=Gu ns b s }:=bG (mD (mC _) (tF _) (.v _)) (aPb ns hn b s) (z4 ns b s)
theorem aPd (n:Int):aB Tryz.prog 188 [.v (.int .u64 n)]=some (.v (.bool (decide (1≤n) && decide (n≤64)))):=by
 rw[cL Tryz.func188 rfl aJV rfl];by_cases h:1≤n
 all_goals
  simp only[Z8,seval,h,decide_true,decide_false,Bool.true_and,Bool.false_and];exact bX rfl (by simp only[E8,seval,h,decide_true,decide_false,Bool.true_and,Bool.false_and]<;>rfl) (.v _)
theorem aJW (n:Int) (st:St) (d:Option Nat):aN (aB Tryz.prog) 188 [.v (.int .u64 n)] st d=some { dst:=d,val:=.v (.bool (decide (1≤n) && decide (n≤64)))}:=bG (cU (.v _)) (aPd n) (.v _)
noncomputable def BD (a b:Int):Int × Int:=if b≠0∧IntKind.u64.wrap (Int.tdiv 18446744073709551615 b)<a then (0,4) else (IntKind.u64.wrap (a * b),0)
theorem aPe (a b:Int):aB Tryz.prog 189 [.v (.int .u64 a),.v (.int .u64 b)]=some (.eE [.v (.int .u64 (BD a b).1),.v (.int .i64 (BD a b).2)]):=by
 rw[cL Tryz.func189 rfl aJX rfl];unfold BD;by_cases h:b=0
 ·rw[if_neg (fun k=>k.1 h)]
  have hb:(b != 0)=false:=by simp[h]
  simp only[Z8,seval,hb];exact dK rfl rfl rfl (by simp only[E8,seval]<;>rfl) (by simp only[E8,seval]<;>rfl)
 ·have hb:(b != 0)=true:=by simp[h]
  have YN:(b=0)=False:=eq_false h
  by_cases h2:IntKind.u64.wrap (Int.tdiv 18446744073709551615 b)<a
  ·rw[if_pos ⟨h,h2⟩];simp only[Z8,seval,hb,YN,h2];exact dK rfl rfl rfl (by simp only[E8,seval]<;>rfl) (by simp only[E8,seval]<;>rfl)
  ·rw[if_neg (fun k=>h2 k.2)]
   simp only[Z8,seval,hb,YN,h2];exact dK rfl rfl rfl (by simp only[E8,seval]<;>rfl) (by simp only[E8,seval]<;>rfl)
theorem aPf (a b:Int) (st:St) (d:Option Nat):aN (aB Tryz.prog) 189 [.v (.int .u64 a),.v (.int .u64 b)] st d=some { dst:=d,val:=.eE [.v (.int .u64 (BD a b).1),.v (.int .i64 (BD a b).2)]}:=bG (bE (.v _) (.v _)) (aPe a b) (.eE _ (bE (.v _) (.v _)))
noncomputable def Nd (e p:Int):Int × Int:=if 1≤p∧p≤64 then BD e p else (0,3)
theorem aPg (e p:Int):aB Tryz.prog 155 [.v (.int .u64 e),.v (.int .u64 p)]=some (.eE [.v (.int .u64 (Nd e p).1),.v (.int .i64 (Nd e p).2)]):=by
 rw[cL Tryz.func155 rfl aJY rfl];unfold Nd;by_cases h:1≤p∧p≤64
 ·have h1:(decide (1≤p) && decide (p≤64))=true:=by simp[h]
  rw[if_pos h];simp only[Z8,seval,aJW,h1,aPf,dM];exact dK rfl rfl rfl (by simp only[E8,seval]<;>rfl) (by simp only[E8,seval]<;>rfl)
 ·have h1:(decide (1≤p) && decide (p≤64))=false:=by
   rw[Bool.eq_false_iff];intro k;simp at k;exact h k
  rw[if_neg h];simp only[Z8,seval,aJW,h1];exact dK rfl rfl rfl (by simp only[E8,seval]<;>rfl) (by simp only[E8,seval]<;>rfl)
theorem aPh (e p:Int) (st:St) (d:Option Nat):aN (aB Tryz.prog) 155 [.v (.int .u64 e),.v (.int .u64 p)] st d=some { dst:=d,val:=.eE [.v (.int .u64 (Nd e p).1),.v (.int .i64 (Nd e p).2)]}:=bG (bE (.v _) (.v _)) (aPg e p) (.eE _ (bE (.v _) (.v _)))
theorem aPi (n a b:Int):aB Tryz.prog 156 [.v (.int .i64 n),.v (.int .i64 a),.v (.int .i64 b)]=some (.v (.bool (decide (a≤n) && decide (n≤b)))):=by
 rw[cL Tryz.func156 rfl aJZ rfl];by_cases h:a≤n
 all_goals
  simp only[Z8,seval,h,decide_true,decide_false,Bool.true_and,Bool.false_and];exact bX rfl (by simp only[E8,seval,h,decide_true,decide_false,Bool.true_and,Bool.false_and]<;>rfl) (.v _)
theorem aPj (n a b:Int) (st:St) (d:Option Nat):aN (aB Tryz.prog) 156 [.v (.int .i64 n),.v (.int .i64 a),.v (.int .i64 b)] st d=some { dst:=d,val:=.v (.bool (decide (a≤n) && decide (n≤b)))}:=bG (mD (.v _) (.v _) (.v _)) (aPi n a b) (.v _)
noncomputable def BE (a b:Int):Int × Int:=if IntKind.u64.wrap (18446744073709551615-b)<a then (0,4) else (IntKind.u64.wrap (a+b),0)
theorem aPk (a b:Int):aB Tryz.prog 196 [.v (.int .u64 a),.v (.int .u64 b)]=some (.eE [.v (.int .u64 (BE a b).1),.v (.int .i64 (BE a b).2)]):=by
 rw[cL Tryz.func196 rfl aJ0 rfl];unfold BE;by_cases h:IntKind.u64.wrap (18446744073709551615-b)<a
 ·rw[if_pos h];simp only[Z8,seval,h];exact dK rfl rfl rfl (by simp only[E8,seval]<;>rfl) (by simp only[E8,seval]<;>rfl)
 ·rw[if_neg h];simp only[Z8,seval,h];exact dK rfl rfl rfl (by simp only[E8,seval]<;>rfl) (by simp only[E8,seval]<;>rfl)
theorem aFX (a b:Int) (st:St) (d:Option Nat):aN (aB Tryz.prog) 196 [.v (.int .u64 a),.v (.int .u64 b)] st d=some { dst:=d,val:=.eE [.v (.int .u64 (BE a b).1),.v (.int .i64 (BE a b).2)]}:=bG (bE (.v _) (.v _)) (aPk a b) (.eE _ (bE (.v _) (.v _)))
theorem DO (l:List Int):∀c∈bJ l,iC c:=by rw[LC];intro c hc;obtain⟨x,_,rfl⟩:=List.mem_map.1 hc;exact .v _
theorem aPl (ns:List Node) (i:Int):aB Tryz.prog 154 [.agg (cO ⟨ns⟩),.v (.int .i64 i)]=some (.v (.bool (decide (0≤i) && decide (i<ns.length)))):=by
 rw[cL Tryz.func154 rfl aJ1 rfl];by_cases h:0≤i
 all_goals
  simp only[ZZ,seval,h,decide_true,decide_false,Bool.false_eq_true,Bool.true_and,Bool.false_and];exact bX rfl (by simp only[EV,seval]) (.v _)
theorem aFY (ns:List Node) (i:Int) (st:St) (d:Option Nat):aN (aB Tryz.prog) 154 [.agg (cO ⟨ns⟩),.v (.int .i64 i)] st d=some { dst:=d,val:=.v (.bool (decide (0≤i) && decide (i<ns.length)))}:=bG (bE (mC _) (.v _)) (aPl ns i) (.v _)
theorem vG {ns:List Node} (h:gM ns) {i:Int} (i0:0≤i) (i1:i<ns.length):i∈path ns i:=by
 by_cases hi:i=0
 ·subst hi;rw[rG (by omega)];simp
 ·rw[pW h (by omega) i1];simp
theorem Nf {ns:List Node} (h:gM ns):∀(k:Nat) (i:Int),i.toNat=k→0≤i→i<ns.length→∀x∈path ns i,0≤x∧x≤i:=by
 intro k;induction k using Nat.strongRecOn with
 | _ k ih =>
   intro i hk i0 i1 x hx;by_cases hi:i=0
   ·subst hi;rw[rG (by omega)] at hx;simp at hx;omega
   ·obtain⟨u0,u1⟩:=h i (by omega) i1
    rw[pW h (by omega) i1] at hx
    rcases List.mem_append.1 hx with hx|hx
    ·have:=ih (nd ns i).up.toNat (by omega) _ rfl u0 (by omega) x hx
     omega
    ·simp at hx;omega
theorem vH {ns:List Node} (h:gM ns) {i x:Int} (hx:x∈path ns i):0≤x∧x<ns.length:=by
 by_cases hi:0≤i∧i<ns.length
 ·have:=Nf h _ i rfl hi.1 hi.2 x hx;omega
 ·rw[yN hi] at hx;simp at hx
def Ee (ns:List Node) (s:Int) (l:List Int):Int:=l.foldl (fun r x=>if (nd ns x).block.slot≤s then x else r) (-1)
def GC (ns:List Node) (i s:Int):Int:=Ee ns s (path ns i)
theorem Wc (ns:List Node) (s:Int) (l:List Int) (x:Int):Ee ns s (l++[x])=if (nd ns x).block.slot≤s then x else Ee ns s l:=by simp[Ee]
theorem LD {ns:List Node} {i:Int} (s:Int) (h:¬(0≤i∧i<ns.length)):GC ns i s=-1:=by unfold GC;rw[yN h];rfl
theorem aB4 {l:List Int} {j:Int} (j0:0≤j) (j1:j<l.length):l.take (j+1).toNat=l.take j.toNat++[it l j]:=by
 obtain⟨h,e⟩:=xJ j0 j1
 rw[e,show (j+1).toNat=j.toNat+1 by omega,List.take_succ_eq_append_getElem h]
theorem Ef {l:List Int} {j:Int} (j0:0≤j) (j1:j<l.length):it l j∈l:=by
 obtain⟨h,e⟩:=xJ j0 j1
 rw[e];exact List.getElem_mem h
theorem aPm (ns:List Node) (hu:gM ns) (hn:(ns.length:Int)<1000000) (i s:Int):aB Tryz.prog 100 [.agg (cO ⟨ns⟩),.v (.int .i64 i),.v (.int .u64 s)]=some (.v (.int .i64 (GC ns i s))):=by
 rw[cL Tryz.func100 rfl aJ2 rfl];by_cases hv:0≤i∧i<ns.length
 ·have hl:((path ns i).length:Int)<1000000:=by have:=Ax hu i;omega
  have hp:=k76 ns hu hn i hv.1 hv.2
  have hrg:∀x∈path ns i,0≤x∧x<ns.length:=fun x=>vH hu
  unfold GC;generalize path ns i=p at hl hp hrg
  simp only[ZZ,seval,hp];refine kI (fun n st=>∃j:Int,st.env 2=.v (.int .u64 s)∧st.env 3=.ptr 3 0 0∧st.heap 3 0=some (.cells (cO ⟨ns⟩))∧st.env 8=.own 12 0∧st.heap 12 0=some (.row 3 1 p.length (aK p))∧st.env 9=.v (.int .i64 j)∧st.env 7=.v (.int .i64 (Ee ns s (p.take j.toNat)))∧0≤j∧j≤p.length∧n=(p.length-j).toNat)
   (fun e st=>e=.exit 0∧st.env 7=.v (.int .i64 (Ee ns s p))) p.length ?step ?start ?rest
  case step =>
   rintro n st ⟨j,h2,h3,GD,h8,hh8,h9,h7,j0,j1,Gj⟩
   by_cases bA:j<p.length
   ·have hw:IntKind.i64.wrap (j+1)=j+1:=Fx _ (by omega) (by omega)
    obtain⟨x0,x1⟩:=hrg _ (Ef j0 bA)
    have ht:=aB4 j0 bA
    by_cases hs:(nd ns (it p j)).block.slot≤s
    ·apply oN ((p.length-(j+1)).toNat)
     ·simp only[ZZ,seval,h2,h3,GD,h8,hh8,h9,bA,j0,hw,x0,x1,hs];rfl
     ·exact⟨j+1,by simp only[EV,seval,h2],by simp only[EV,seval,h3],by simp only[EV,seval,GD],by simp only[EV,seval,h8],by simp only[EV,seval,hh8],(by simp only[EV,seval]),by simp only[EV,seval,ht,Wc,hs],by omega,by omega,rfl⟩
    ·apply oN ((p.length-(j+1)).toNat)
     ·simp only[ZZ,seval,h2,h3,GD,h8,hh8,h9,bA,j0,hw,x0,x1,hs];rfl
     ·exact⟨j+1,by simp only[EV,seval,h2],by simp only[EV,seval,h3],by simp only[EV,seval,GD],by simp only[EV,seval,h8],by simp only[EV,seval,hh8],(by simp only[EV,seval]),by simp only[EV,seval,ht,Wc,hs,h7],by omega,by omega,rfl⟩
   ·have ht:p.take j.toNat=p:=List.take_of_length_le (by omega)
    apply oT (.exit 0)
    ·simp only[ZZ,seval,h2,h3,GD,h8,hh8,h9,bA,j0];rfl
    ·exact⟨rfl,by rw[← ht];exact h7⟩
  case start=>exact⟨0,(by simp only[EV,seval]),(by simp only[EV,seval]),(by simp only[EV,seval]),(by simp only[EV,seval]),(by simp only[EV,seval]),(by simp only[EV,seval]),(by simp only[EV,seval];rfl),by omega,by omega,by omega⟩
  case rest =>
   rintro e st ⟨rfl,h⟩
   simp only[ZZ,seval,h];exact bX rfl (by simp only[EV,seval]) (.v _)
 ·rw[LD s hv];simp only[ZZ,seval,y8 ns i hv,Gs,Int.natCast_zero,Int.lt_irrefl,decide_false];exact bX rfl (by simp only[EV,seval]) (.v _)
theorem LF (ns:List Node) (hu:gM ns) (hn:(ns.length:Int)<1000000) (i s:Int) (st:St) (d:Option Nat):aN (aB Tryz.prog) 100 [.agg (cO ⟨ns⟩),.v (.int .i64 i),.v (.int .u64 s)] st d=some { dst:=d,val:=.v (.int .i64 (GC ns i s))}:=bG (mD (mC _) (.v _) (.v _)) (aPm ns hu hn i s) (.v _)
theorem aB5 {ns:List Node} (hu:gM ns) {a c:Int} (h0:0≤c) (h1:c<ns.length) (h:¬a<c):tP ns a c=decide (a=c):=by
 unfold tP;rw[decide_eq_decide];constructor
 ·intro hm;have:=Nf hu _ c rfl h0 h1 a hm;omega
 ·rintro rfl;exact vG hu h0 h1
theorem N4 {ns:List Node} (hu:gM ns) {a c:Int} (h1:c<ns.length) (h:a<c) (a0:0≤a):tP ns a c=tP ns a (nd ns c).up:=by
 unfold tP;rw[decide_eq_decide,pW hu (by omega) h1]
 simp only[List.mem_append,List.mem_singleton];constructor
 ·rintro (hm|rfl)
  ·exact hm
  ·omega
 ·exact .inl
theorem DP {ns:List Node} (hu:gM ns) {a c:Int} (h:¬((0≤a∧a<ns.length)∧(0≤c∧c<ns.length))):tP ns a c=false:=by
 unfold tP;rw[decide_eq_false_iff_not];intro hm;by_cases hc:0≤c∧c<ns.length
 ·exact h ⟨vH hu hm,hc⟩
 ·rw[yN hc] at hm;simp at hm
theorem aPn (ns:List Node) (hu:gM ns) (a b:Int):aB Tryz.prog 121 [.agg (cO ⟨ns⟩),.v (.int .i64 a),.v (.int .i64 b)]=some (.v (.bool (tP ns a b))):=by
 rw[cL Tryz.func121 rfl aJ5 rfl];by_cases hv:(0≤a∧a<ns.length)∧(0≤b∧b<ns.length)
 ·have hda:(decide (0≤a) && decide (a<ns.length))=true:=by simp[hv.1.1,hv.1.2]
  have hdb:(decide (0≤b) && decide (b<ns.length))=true:=by simp[hv.2.1,hv.2.2]
  simp only[ZZ,seval,aFY,hda,hdb];refine kI (fun n st=>∃c:Int,st.env 1=.v (.int .i64 a)∧st.env 2=.v (.int .i64 c)∧st.env 3=.ptr 3 0 0∧st.heap 3 0=some (.cells (cO ⟨ns⟩))∧tP ns a b=tP ns a c∧0≤c∧c<ns.length∧n=c.toNat)
   (fun e st=>e=.exit 0∧∃c:Int,st.env 1=.v (.int .i64 a)∧st.env 2=.v (.int .i64 c)∧tP ns a b=decide (a=c)) b.toNat ?step ?start ?rest
  case step =>
   rintro n st ⟨c,h1,h2,h3,GD,hb,c0,c1,Gj⟩
   by_cases bA:a<c
   ·obtain⟨u0,u1⟩:=hu c (by omega) c1
    apply oN (((nd ns c).up).toNat)
    ·simp only[ZZ,seval,h1,h2,h3,GD,bA,c0,c1];rfl
    ·exact⟨(nd ns c).up,by simp only[EV,seval,h1],(by simp only[EV,seval]),by simp only[EV,seval,h3],by simp only[EV,seval,GD],hb.trans (N4 hu c1 bA hv.1.1),u0,by omega,rfl⟩
   ·apply oT (.exit 0)
    ·simp only[ZZ,seval,h1,h2,h3,GD,bA];rfl
    ·exact⟨rfl,c,by simp only[EV,seval,h1],by simp only[EV,seval,h2],hb.trans (aB5 hu c0 c1 bA)⟩
  case start=>exact⟨b,(by simp only[EV,seval]),(by simp only[EV,seval]),(by simp only[EV,seval]),(by simp only[EV,seval]),rfl,hv.2.1,hv.2.2,rfl⟩
  case rest =>
   rintro e st ⟨rfl,c,h1,h2,h⟩
   have hbq:(a == c)=decide (a=c):=rfl
   simp only[ZZ,seval,h1,h2];exact bX rfl (by simp only[EV,seval,h,hbq]) (.v _)
 ·rw[DP hu hv];by_cases ha:0≤a∧a<ns.length
  ·have hda:(decide (0≤a) && decide (a<ns.length))=true:=by simp[ha.1,ha.2]
   have hdb:(decide (0≤b) && decide (b<ns.length))=false:=by rw[← Bool.not_eq_true];simpa using fun h h'=>hv ⟨ha,h,h'⟩
   simp only[ZZ,seval,aFY,hda,hdb];exact bX rfl (by simp only[EV,seval]) (.v _)
  ·have hda:(decide (0≤a) && decide (a<ns.length))=false:=by rw[← Bool.not_eq_true];simpa using ha
   simp only[ZZ,seval,aFY,hda];exact bX rfl (by simp only[EV,seval]) (.v _)
theorem TH (ns:List Node) (hu:gM ns) (a b:Int) (st:St) (d:Option Nat):aN (aB Tryz.prog) 121 [.agg (cO ⟨ns⟩),.v (.int .i64 a),.v (.int .i64 b)] st d=some { dst:=d,val:=.v (.bool (tP ns a b))}:=bG (mD (mC _) (.v _) (.v _)) (aPn ns hu a b) (.v _)
theorem Wd {ns:List Node} (hu:gM ns) {a c:Int} (h:tP ns a c=true):(0≤a∧a<ns.length)∧(0≤c∧c<ns.length):=by
 by_cases hv:(0≤a∧a<ns.length)∧(0≤c∧c<ns.length)
 ·exact hv
 ·rw[DP hu hv] at h;cases h
theorem N5 {ns:List Node} (hu:gM ns) {a c:Int} (h:tP ns a c=true):a≤c:=by
 have hr:=(Wd hu h).2
 unfold tP at h;exact (Nf hu _ c rfl hr.1 hr.2 a (of_decide_eq_true h)).2
theorem aPp (a b:List Node) (hn:(a.length:Int)<1000000):aB Tryz.prog 106 [.agg (cO ⟨a⟩),.agg (cO ⟨b⟩)]=some (.v (.bool (decide (a=b)))):=by
 rw[cL Tryz.func106 rfl aJ7 rfl];by_cases hlen:a.length=b.length
 ·have hq:((a.length:Int) != (b.length:Int))=false:=by simp[hlen]
  simp only[ZZ,seval,hq];refine kI (fun n st=>∃i:Int,st.env 2=.ptr 2 0 0∧st.env 3=.ptr 3 0 0∧st.heap 2 0=some (.cells (cO ⟨a⟩))∧st.heap 3 0=some (.cells (cO ⟨b⟩))∧st.env 5=.v (.int .i64 i)∧0≤i∧i≤a.length∧n=(a.length-i).toNat∧∀j,0≤j→j<i→nd a j=nd b j)
   (fun e st=>(e=.ret∧st.env 4=.v (.bool (decide (a=b))))∨(e=.exit 0∧decide (a=b)=true)) a.length ?step ?start ?rest
  case step =>
   rintro n st ⟨i,h2,h3,uT,GD,h5,i0,i1,Gj,hb⟩
   by_cases bA:i<a.length
   ·have hw:IntKind.i64.wrap (i+1)=i+1:=Fx _ (by omega) (by omega)
    have Fw:i<b.length:=by omega
    by_cases hr:nd a i=nd b i
    ·have hbq:decide (nd a i=nd b i)=true:=by simp[hr]
     apply oN ((a.length-(i+1)).toNat)
     ·simp only[ZZ,seval,h2,h3,uT,GD,h5,bA,Fw,i0,hbq,hw];rfl
     ·exact⟨i+1,by simp only[EV,seval,h2],by simp only[EV,seval,h3],by simp only[EV,seval,uT],by simp only[EV,seval,GD],(by simp only[EV,seval]),by omega,by omega,rfl,fun j j0 j1=>by
      rcases Int.lt_or_eq_of_le (show j≤i by omega) with h|rfl
      ·exact hb j j0 h
      ·exact hr⟩
    ·have hbq:decide (nd a i=nd b i)=false:=by simp[hr]
     have hd:decide (a=b)=false:=by rw[decide_eq_false_iff_not];intro h;exact hr (by rw[h])
     apply oT (.ret)
     ·simp only[ZZ,seval,h2,h3,uT,GD,h5,bA,Fw,i0,hbq];rfl
     ·exact .inl ⟨rfl,by simp only[EV,seval,hd]⟩
   ·apply oT (.exit 0)
    ·simp only[ZZ,seval,h2,h3,uT,GD,h5,bA,i0];rfl
    ·exact .inr ⟨rfl,by
     rw[decide_eq_true_eq];apply List.ext_getElem hlen
     intro j h1 h2;have:=hb j (by omega) (by omega)
     simpa [nd,h1,h2] using this⟩
  case start=>exact⟨0,(by simp only[EV,seval]),(by simp only[EV,seval]),(by simp only[EV,seval]),(by simp only[EV,seval]),(by simp only[EV,seval]),by omega,by omega,by omega,fun j _ _=>by omega⟩
  case rest =>
   rintro e st (⟨rfl,h⟩|⟨rfl,h⟩)
   ·simp only[ZZ,seval];exact bX rfl h (.v _)
   ·simp only[ZZ,seval];exact bX rfl (by simp only[EV,seval,h]) (.v _)
 ·have hq:((a.length:Int) != (b.length:Int))=true:=by simp;omega
  have hd:decide (a=b)=false:=by rw[decide_eq_false_iff_not];intro h;exact hlen (by rw[h])
  simp only[ZZ,seval,hq];exact bX rfl (by simp only[EV,seval,hd]) (.v _)
theorem aJ8 (a b:List Node) (hn:(a.length:Int)<1000000) (st:St) (d:Option Nat):aN (aB Tryz.prog) 106 [.agg (cO ⟨a⟩),.agg (cO ⟨b⟩)] st d=some { dst:=d,val:=.v (.bool (decide (a=b)))}:=bG (bE (mC _) (mC _)) (aPp a b hn) (.v _)
def jT (ns:List Node) (i:Int):Nat→List Node × List Int
 | 0=>([],[])
 | k+1 =>
   let p:=jT ns i k
   if tP ns i k=true then (p.1++[{ nd ns k with up:=if (k:Int)=i then -1 else it p.2 (nd ns k).up }],p.2++[(p.1.length:Int)]) else (p.1,p.2++[-1])
theorem wC (ns:List Node) (i:Int):∀k,(jT ns i k).2.length=k
 | 0=>rfl
 | k+1=>by
   have:=wC ns i k
   simp only[jT];split<;>simp[this]
theorem Iy (ns:List Node) (i:Int):∀k,(jT ns i k).1.length≤k
 | 0=>Nat.le_refl _
 | k+1=>by
   have:=Iy ns i k
   simp only[jT];split
   ·simp;exact this
   ·simp;omega
theorem kM {l m:List Int} {j:Int} (h0:0≤j) (h1:j<l.length):it (l++m) j=it l j:=by
 have:j.toNat<l.length:=by omega
 simp[it,List.getElem?_append_left this]
theorem vI {l:List Int} {x:Int} {j:Int} (h:j=l.length):it (l++[x]) j=x:=by
 subst h;simp[it]
theorem Iz {l m:List Node} {j:Int} (h0:0≤j) (h1:j<l.length):nd (l++m) j=nd l j:=by
 have:j.toNat<l.length:=by omega
 simp[nd,List.getElem?_append_left this]
theorem DQ {l:List Node} {x:Node} {j:Int} (h:j=l.length):nd (l++[x]) j=x:=by
 subst h;simp[nd]
theorem LG (ns:List Node) (i:Int):∀(k:Nat) (j:Int),0≤j→j<k→(0≤it (jT ns i k).2 j↔tP ns i j=true)
 | 0,j,_,h=>by omega
 | k+1,j,h0,h1=>by
   have hl:=wC ns i k
   by_cases hj:j<k
   ·have ih:=LG ns i k j h0 hj
    simp only[jT];split
    ·simp only;rw[kM h0 (by omega)];exact ih
    ·simp only;rw[kM h0 (by omega)];exact ih
   ·have hjk:j=k:=by omega
    subst hjk;simp only[jT];split
    ·rename_i h;simp only;rw[vI (by omega)];simp[h]
    ·rename_i h;simp only;rw[vI (by omega)];simp[h]
theorem Ng {ns:List Node} (hu:gM ns) {i:Int} (i0:0≤i) (i1:i<ns.length):tP ns i i=true:=by
 unfold tP;rw[decide_eq_true_eq];by_cases h:i=0
 ·subst h;rw[rG (by omega)];simp
 ·rw[pW hu (by omega) i1];simp
theorem N6 {ns:List Node} (hu:gM ns) {a i:Int} (i0:0<i) (i1:i<ns.length) (h:a≠i):tP ns a i=tP ns a (nd ns i).up:=by
 unfold tP;rw[pW hu i0 i1];simp[h]
theorem We {ns:List Node} {a:Int} (h:0<ns.length):tP ns a 0=decide (a=0):=by
 unfold tP;rw[rG h];simp
theorem N7 (ns:List Node) (hu:gM ns) {i:Int} (i0:0≤i) (i1:i<ns.length):(jT ns i ns.length).1≠[]:=by
 have main:∀k:Nat,i<k→k≤ns.length→(jT ns i k).1≠[]:=by
  intro k;induction k with
  | zero=>intro h;omega
  | succ k ih =>
    intro h1 h2;by_cases hk:i<k
    ·have:=ih hk (by omega)
     simp only[jT];split
     ·simp
     ·exact this
    ·have TJ:i=k:=by omega
     have:tP ns i k=true:=by rw[← TJ];exact Ng hu i0 i1
     simp[jT,this]
 exact main ns.length i1 (Nat.le_refl _)
def aB6 (st:St) (s1 s2:Nat) (y:AV) (l:List Int):Prop :=
 (y=.v (.slice none 0 0)∧l=[])∨(∃g,y=.own s1 g∧g<st.aQ s1∧st.heap s1 g=some (.row 3 1 l.length (aK l)))∨(∃g,y=.own s2 g∧g<st.aQ s2∧st.heap s2 g=some (.row 3 1 l.length (aK l)))
def aB7 (st:St) (s1:Nat) (x:AV) (l:List Node):Prop :=
 (x=.v (.slice none 0 0)∧l=[])∨(∃g,x=.own s1 g∧g<st.aQ s1∧st.heap s1 g=some (.row 76 240 l.length (bZ l)))
theorem c34 (ns:List Node) (hu:gM ns) (hn:(ns.length:Int)<1000000) (i:Int) (i0:0≤i) (i1:i<ns.length):aB Tryz.prog 34 [.agg (cO ⟨ns⟩),.v (.int .i64 i)] =
 some (.eE [.agg (cO ⟨(jT ns i ns.length).1⟩),.sl (jT ns i ns.length).2.length (aK (jT ns i ns.length).2),.v (.int .i64 0)]):=by
 have hd:(decide (0≤i) && decide (i<ns.length))=true:=by simp[i0,i1]
 rw[cL Tryz.func34 rfl aPr rfl];simp only[ZZ,seval,SK,hd];refine kI (fun n st=>∃(k:Nat) (x y:AV),st.env 2=.ptr 2 0 0∧st.heap 2 0=some (.cells (cO ⟨ns⟩))∧st.env 4=.ptr 4 0 0∧st.heap 4 0=some (.cells [.v (.slice none 0 0)])∧st.env 7=.ptr 7 0 0∧st.heap 7 0=some (.cells [x]) ∧
  st.env 1=.v (.int .i64 i)∧st.env 9=.v (.int .i64 k)∧k≤ns.length∧n=ns.length-k∧st.env 8=y∧aB6 st 30 51 y (jT ns i k).2∧aB7 st 56 x (jT ns i k).1)
  (fun e st=>e=.exit 0∧∃(x y:AV),st.env 4=.ptr 4 0 0∧st.heap 4 0=some (.cells [.v (.slice none 0 0)])∧st.env 7=.ptr 7 0 0∧st.heap 7 0=some (.cells [x])∧st.env 8=y∧aB6 st 30 51 y (jT ns i ns.length).2∧aB7 st 56 x (jT ns i ns.length).1) ns.length ?step ?start ?rest
 case step =>
  rintro n st ⟨k,x,y,h2,uT,h4,pN,h7,Fy,h1,h9,hk,Gj,h8,hy,hx⟩
  have hlen:=wC ns i k
  have N8:=Iy ns i k
  have yC:((jT ns i k).2.length:Int)<1000000:=by omega
  have Tx:((jT ns i k).1.length:Int)<1000000:=by omega
  by_cases bA:(k:Int)<ns.length
  ·have hw:IntKind.i64.wrap ((k:Int)+1)=((k+1:Nat):Int):=by rw[Fx _ (by omega) (by omega)];simp
   have k0:(0:Int)≤k:=by omega
   by_cases Bz:tP ns i k=true
   ·have hs:jT ns i (k+1)=((jT ns i k).1++[{ nd ns k with up:=if (k:Int)=i then -1 else it (jT ns i k).2 (nd ns k).up }],(jT ns i k).2++[((jT ns i k).1.length:Int)]):=by simp only[jT,Bz,if_true]
    have upb:(k:Int)≠i→0≤(nd ns k).up∧(nd ns k).up<(jT ns i k).2.length:=fun gR=>by
     rcases Nat.eq_zero_or_pos k with h0|h0
     ·subst h0;rw[show ((0:Nat):Int)=0 from rfl,We (by omega)] at Bz
      simp at Bz
      omega
     ·have:=hu k (by omega) bA
      rw[hlen];omega
    by_cases TJ:(k:Int)=i
    ·have hq:((k:Int) == i)=true:=by simp[TJ]
     rw[if_pos TJ] at hs;rcases hy with ⟨rfl,hy⟩|⟨g,rfl,hg,hy⟩|⟨g,rfl,hg,hy⟩<;>rcases hx with ⟨rfl,hx⟩|⟨g',rfl,KR,hx⟩
     ·rw[hy,hx] at hs;apply oN ((ns.length-(k+1)))
      ·simp only[ZZ,seval,h2,uT,h4,pN,h7,Fy,h1,h9,h8,bA,k0,Nb ns hu hn,Bz,hw,hq];rfl
      ·exact⟨k+1,_,_,(by simp only[EV,seval,h2]),(by simp only[EV,seval,uT]),(by simp only[EV,seval,h4]),(by simp only[EV,seval,pN]),(by simp only[EV,seval,h7]),(by simp only[EV,seval];rfl),(by simp only[EV,seval,h1]),(by simp only[EV,seval]),by omega,by omega,(by simp only[EV,seval];rfl),(by rw[hs];(try simp only[List.nil_append]);exact .inr (.inr ⟨_,rfl,(by simp only[EV,seval]<;>omega),(by simp only[EV,seval]<;>rfl)⟩)),(by rw[hs];(try simp only[List.nil_append]);exact .inr ⟨_,rfl,(by simp only[EV,seval]<;>omega),(by simp only[EV,seval]<;>rfl)⟩)⟩
     ·rw[hy] at hs;apply oN ((ns.length-(k+1)))
      ·simp only[ZZ,seval,h2,uT,h4,pN,h7,Fy,h1,h9,h8,bA,k0,Nb ns hu hn,Bz,hw,hq,hx,Tx];rfl
      ·exact⟨k+1,_,_,(by simp only[EV,seval,h2]),(by simp only[EV,seval,uT]),(by simp only[EV,seval,h4]),(by simp only[EV,seval,pN]),(by simp only[EV,seval,h7]),(by simp only[EV,seval];rfl),(by simp only[EV,seval,h1]),(by simp only[EV,seval]),by omega,by omega,(by simp only[EV,seval];rfl),(by rw[hs];(try simp only[List.nil_append]);exact .inr (.inr ⟨_,rfl,(by simp only[EV,seval]<;>omega),(by simp only[EV,seval]<;>rfl)⟩)),(by rw[hs];(try simp only[List.nil_append]);exact .inr ⟨_,rfl,(by simp only[EV,seval]<;>omega),(by simp only[EV,seval]<;>rfl)⟩)⟩
     ·rw[hx] at hs;apply oN ((ns.length-(k+1)))
      ·simp only[ZZ,seval,h2,uT,h4,pN,h7,Fy,h1,h9,h8,bA,k0,Nb ns hu hn,Bz,hw,hq,hy,yC];rfl
      ·exact⟨k+1,_,_,(by simp only[EV,seval,h2]),(by simp only[EV,seval,uT]),(by simp only[EV,seval,h4]),(by simp only[EV,seval,pN]),(by simp only[EV,seval,h7]),(by simp only[EV,seval];rfl),(by simp only[EV,seval,h1]),(by simp only[EV,seval]),by omega,by omega,(by simp only[EV,seval];rfl),(by rw[hs];(try simp only[List.nil_append]);exact .inr (.inr ⟨_,rfl,(by simp only[EV,seval]<;>omega),(by simp only[EV,seval]<;>rfl)⟩)),(by rw[hs];(try simp only[List.nil_append]);exact .inr ⟨_,rfl,(by simp only[EV,seval]<;>omega),(by simp only[EV,seval]<;>rfl)⟩)⟩
     ·apply oN ((ns.length-(k+1)))
      ·simp only[ZZ,seval,h2,uT,h4,pN,h7,Fy,h1,h9,h8,bA,k0,Nb ns hu hn,Bz,hw,hq,hy,yC,hx,Tx];rfl
      ·exact⟨k+1,_,_,(by simp only[EV,seval,h2]),(by simp only[EV,seval,uT]),(by simp only[EV,seval,h4]),(by simp only[EV,seval,pN]),(by simp only[EV,seval,h7]),(by simp only[EV,seval];rfl),(by simp only[EV,seval,h1]),(by simp only[EV,seval]),by omega,by omega,(by simp only[EV,seval];rfl),(by rw[hs];(try simp only[List.nil_append]);exact .inr (.inr ⟨_,rfl,(by simp only[EV,seval]<;>omega),(by simp only[EV,seval]<;>rfl)⟩)),(by rw[hs];(try simp only[List.nil_append]);exact .inr ⟨_,rfl,(by simp only[EV,seval]<;>omega),(by simp only[EV,seval]<;>rfl)⟩)⟩
     ·rw[hx] at hs;apply oN ((ns.length-(k+1)))
      ·simp only[ZZ,seval,h2,uT,h4,pN,h7,Fy,h1,h9,h8,bA,k0,Nb ns hu hn,Bz,hw,hq,hy,yC];rfl
      ·exact⟨k+1,_,_,(by simp only[EV,seval,h2]),(by simp only[EV,seval,uT]),(by simp only[EV,seval,h4]),(by simp only[EV,seval,pN]),(by simp only[EV,seval,h7]),(by simp only[EV,seval];rfl),(by simp only[EV,seval,h1]),(by simp only[EV,seval]),by omega,by omega,(by simp only[EV,seval];rfl),(by rw[hs];(try simp only[List.nil_append]);exact .inr (.inr ⟨_,rfl,(by simp only[EV,seval]<;>omega),(by simp only[EV,seval]<;>rfl)⟩)),(by rw[hs];(try simp only[List.nil_append]);exact .inr ⟨_,rfl,(by simp only[EV,seval]<;>omega),(by simp only[EV,seval]<;>rfl)⟩)⟩
     ·apply oN ((ns.length-(k+1)))
      ·simp only[ZZ,seval,h2,uT,h4,pN,h7,Fy,h1,h9,h8,bA,k0,Nb ns hu hn,Bz,hw,hq,hy,yC,hx,Tx];rfl
      ·exact⟨k+1,_,_,(by simp only[EV,seval,h2]),(by simp only[EV,seval,uT]),(by simp only[EV,seval,h4]),(by simp only[EV,seval,pN]),(by simp only[EV,seval,h7]),(by simp only[EV,seval];rfl),(by simp only[EV,seval,h1]),(by simp only[EV,seval]),by omega,by omega,(by simp only[EV,seval];rfl),(by rw[hs];(try simp only[List.nil_append]);exact .inr (.inr ⟨_,rfl,(by simp only[EV,seval]<;>omega),(by simp only[EV,seval]<;>rfl)⟩)),(by rw[hs];(try simp only[List.nil_append]);exact .inr ⟨_,rfl,(by simp only[EV,seval]<;>omega),(by simp only[EV,seval]<;>rfl)⟩)⟩
    ·have hq:((k:Int) == i)=false:=by simp[TJ]
     obtain⟨u0,u1⟩:=upb TJ
     rw[if_neg TJ] at hs;rcases hy with ⟨rfl,hy⟩|⟨g,rfl,hg,hy⟩|⟨g,rfl,hg,hy⟩<;>rcases hx with ⟨rfl,hx⟩|⟨g',rfl,KR,hx⟩
     ·exfalso;rw[hy] at u1;simp at u1;omega
     ·exfalso;rw[hy] at u1;simp at u1;omega
     ·rw[hx] at hs;apply oN ((ns.length-(k+1)))
      ·simp only[ZZ,seval,h2,uT,h4,pN,h7,Fy,h1,h9,h8,bA,k0,Nb ns hu hn,Bz,hw,hq,u0,u1,hy,yC];rfl
      ·exact⟨k+1,_,_,(by simp only[EV,seval,h2]),(by simp only[EV,seval,uT]),(by simp only[EV,seval,h4]),(by simp only[EV,seval,pN]),(by simp only[EV,seval,h7]),(by simp only[EV,seval];rfl),(by simp only[EV,seval,h1]),(by simp only[EV,seval]),by omega,by omega,(by simp only[EV,seval];rfl),(by rw[hs];(try simp only[List.nil_append]);exact .inr (.inr ⟨_,rfl,(by simp only[EV,seval]<;>omega),(by simp only[EV,seval]<;>rfl)⟩)),(by rw[hs];(try simp only[List.nil_append]);exact .inr ⟨_,rfl,(by simp only[EV,seval]<;>omega),(by simp only[EV,seval]<;>rfl)⟩)⟩
     ·apply oN ((ns.length-(k+1)))
      ·simp only[ZZ,seval,h2,uT,h4,pN,h7,Fy,h1,h9,h8,bA,k0,Nb ns hu hn,Bz,hw,hq,u0,u1,hy,yC,hx,Tx];rfl
      ·exact⟨k+1,_,_,(by simp only[EV,seval,h2]),(by simp only[EV,seval,uT]),(by simp only[EV,seval,h4]),(by simp only[EV,seval,pN]),(by simp only[EV,seval,h7]),(by simp only[EV,seval];rfl),(by simp only[EV,seval,h1]),(by simp only[EV,seval]),by omega,by omega,(by simp only[EV,seval];rfl),(by rw[hs];(try simp only[List.nil_append]);exact .inr (.inr ⟨_,rfl,(by simp only[EV,seval]<;>omega),(by simp only[EV,seval]<;>rfl)⟩)),(by rw[hs];(try simp only[List.nil_append]);exact .inr ⟨_,rfl,(by simp only[EV,seval]<;>omega),(by simp only[EV,seval]<;>rfl)⟩)⟩
     ·rw[hx] at hs;apply oN ((ns.length-(k+1)))
      ·simp only[ZZ,seval,h2,uT,h4,pN,h7,Fy,h1,h9,h8,bA,k0,Nb ns hu hn,Bz,hw,hq,u0,u1,hy,yC];rfl
      ·exact⟨k+1,_,_,(by simp only[EV,seval,h2]),(by simp only[EV,seval,uT]),(by simp only[EV,seval,h4]),(by simp only[EV,seval,pN]),(by simp only[EV,seval,h7]),(by simp only[EV,seval];rfl),(by simp only[EV,seval,h1]),(by simp only[EV,seval]),by omega,by omega,(by simp only[EV,seval];rfl),(by rw[hs];(try simp only[List.nil_append]);exact .inr (.inr ⟨_,rfl,(by simp only[EV,seval]<;>omega),(by simp only[EV,seval]<;>rfl)⟩)),(by rw[hs];(try simp only[List.nil_append]);exact .inr ⟨_,rfl,(by simp only[EV,seval]<;>omega),(by simp only[EV,seval]<;>rfl)⟩)⟩
     ·apply oN ((ns.length-(k+1)))
      ·simp only[ZZ,seval,h2,uT,h4,pN,h7,Fy,h1,h9,h8,bA,k0,Nb ns hu hn,Bz,hw,hq,u0,u1,hy,yC,hx,Tx];rfl
      ·exact⟨k+1,_,_,(by simp only[EV,seval,h2]),(by simp only[EV,seval,uT]),(by simp only[EV,seval,h4]),(by simp only[EV,seval,pN]),(by simp only[EV,seval,h7]),(by simp only[EV,seval];rfl),(by simp only[EV,seval,h1]),(by simp only[EV,seval]),by omega,by omega,(by simp only[EV,seval];rfl),(by rw[hs];(try simp only[List.nil_append]);exact .inr (.inr ⟨_,rfl,(by simp only[EV,seval]<;>omega),(by simp only[EV,seval]<;>rfl)⟩)),(by rw[hs];(try simp only[List.nil_append]);exact .inr ⟨_,rfl,(by simp only[EV,seval]<;>omega),(by simp only[EV,seval]<;>rfl)⟩)⟩
   ·have Wf:tP ns i k=false:=by simpa using Bz
    have hs:jT ns i (k+1)=((jT ns i k).1,(jT ns i k).2++[-1]):=by simp[jT,Wf]
    rcases hy with ⟨rfl,hy⟩|⟨g,rfl,hg,hy⟩|⟨g,rfl,hg,hy⟩<;>rcases hx with ⟨rfl,hx⟩|⟨g',rfl,KR,hx⟩
    ·rw[hy,hx] at hs;apply oN ((ns.length-(k+1)))
     ·simp only[ZZ,seval,h2,uT,h4,pN,h7,Fy,h1,h9,h8,bA,k0,Nb ns hu hn,Wf,hw];rfl
     ·exact⟨k+1,_,_,(by simp only[EV,seval,h2]),(by simp only[EV,seval,uT]),(by simp only[EV,seval,h4]),(by simp only[EV,seval,pN]),(by simp only[EV,seval,h7]),(by simp only[EV,seval,Fy];rfl),(by simp only[EV,seval,h1]),(by simp only[EV,seval]),by omega,by omega,(by simp only[EV,seval];rfl),(by rw[hs];(try simp only[List.nil_append]);exact .inr (.inl ⟨_,rfl,(by simp only[EV,seval]<;>omega),(by simp only[EV,seval]<;>rfl)⟩)),(by rw[hs];exact .inl ⟨rfl,rfl⟩)⟩
    ·rw[hy] at hs;apply oN ((ns.length-(k+1)))
     ·simp only[ZZ,seval,h2,uT,h4,pN,h7,Fy,h1,h9,h8,bA,k0,Nb ns hu hn,Wf,hw,hx,Tx];rfl
     ·exact⟨k+1,_,_,(by simp only[EV,seval,h2]),(by simp only[EV,seval,uT]),(by simp only[EV,seval,h4]),(by simp only[EV,seval,pN]),(by simp only[EV,seval,h7]),(by simp only[EV,seval,Fy];rfl),(by simp only[EV,seval,h1]),(by simp only[EV,seval]),by omega,by omega,(by simp only[EV,seval];rfl),(by rw[hs];(try simp only[List.nil_append]);exact .inr (.inl ⟨_,rfl,(by simp only[EV,seval]<;>omega),(by simp only[EV,seval]<;>rfl)⟩)),(by rw[hs];exact .inr ⟨_,rfl,(by simp only[EV,seval]<;>omega),(by simp only[EV,seval,hx])⟩)⟩
    ·rw[hx] at hs;apply oN ((ns.length-(k+1)))
     ·simp only[ZZ,seval,h2,uT,h4,pN,h7,Fy,h1,h9,h8,bA,k0,Nb ns hu hn,Wf,hw,hy,yC];rfl
     ·exact⟨k+1,_,_,(by simp only[EV,seval,h2]),(by simp only[EV,seval,uT]),(by simp only[EV,seval,h4]),(by simp only[EV,seval,pN]),(by simp only[EV,seval,h7]),(by simp only[EV,seval,Fy];rfl),(by simp only[EV,seval,h1]),(by simp only[EV,seval]),by omega,by omega,(by simp only[EV,seval];rfl),(by rw[hs];(try simp only[List.nil_append]);exact .inr (.inl ⟨_,rfl,(by simp only[EV,seval]<;>omega),(by simp only[EV,seval]<;>rfl)⟩)),(by rw[hs];exact .inl ⟨rfl,rfl⟩)⟩
    ·apply oN ((ns.length-(k+1)))
     ·simp only[ZZ,seval,h2,uT,h4,pN,h7,Fy,h1,h9,h8,bA,k0,Nb ns hu hn,Wf,hw,hy,yC,hx,Tx];rfl
     ·exact⟨k+1,_,_,(by simp only[EV,seval,h2]),(by simp only[EV,seval,uT]),(by simp only[EV,seval,h4]),(by simp only[EV,seval,pN]),(by simp only[EV,seval,h7]),(by simp only[EV,seval,Fy];rfl),(by simp only[EV,seval,h1]),(by simp only[EV,seval]),by omega,by omega,(by simp only[EV,seval];rfl),(by rw[hs];(try simp only[List.nil_append]);exact .inr (.inl ⟨_,rfl,(by simp only[EV,seval]<;>omega),(by simp only[EV,seval]<;>rfl)⟩)),(by rw[hs];exact .inr ⟨_,rfl,(by simp only[EV,seval]<;>omega),(by simp only[EV,seval,hx])⟩)⟩
    ·rw[hx] at hs;apply oN ((ns.length-(k+1)))
     ·simp only[ZZ,seval,h2,uT,h4,pN,h7,Fy,h1,h9,h8,bA,k0,Nb ns hu hn,Wf,hw,hy,yC];rfl
     ·exact⟨k+1,_,_,(by simp only[EV,seval,h2]),(by simp only[EV,seval,uT]),(by simp only[EV,seval,h4]),(by simp only[EV,seval,pN]),(by simp only[EV,seval,h7]),(by simp only[EV,seval,Fy];rfl),(by simp only[EV,seval,h1]),(by simp only[EV,seval]),by omega,by omega,(by simp only[EV,seval];rfl),(by rw[hs];(try simp only[List.nil_append]);exact .inr (.inl ⟨_,rfl,(by simp only[EV,seval]<;>omega),(by simp only[EV,seval]<;>rfl)⟩)),(by rw[hs];exact .inl ⟨rfl,rfl⟩)⟩
    ·apply oN ((ns.length-(k+1)))
     ·simp only[ZZ,seval,h2,uT,h4,pN,h7,Fy,h1,h9,h8,bA,k0,Nb ns hu hn,Wf,hw,hy,yC,hx,Tx];rfl
     ·exact⟨k+1,_,_,(by simp only[EV,seval,h2]),(by simp only[EV,seval,uT]),(by simp only[EV,seval,h4]),(by simp only[EV,seval,pN]),(by simp only[EV,seval,h7]),(by simp only[EV,seval,Fy];rfl),(by simp only[EV,seval,h1]),(by simp only[EV,seval]),by omega,by omega,(by simp only[EV,seval];rfl),(by rw[hs];(try simp only[List.nil_append]);exact .inr (.inl ⟨_,rfl,(by simp only[EV,seval]<;>omega),(by simp only[EV,seval]<;>rfl)⟩)),(by rw[hs];exact .inr ⟨_,rfl,(by simp only[EV,seval]<;>omega),(by simp only[EV,seval,hx])⟩)⟩
  ·have Az:k=ns.length:=by omega
   subst Az;apply oT (.exit 0)
   ·simp only[ZZ,seval,h2,uT,h4,pN,h7,Fy,h1,h9,h8,bA];rfl
   ·exact⟨rfl,x,y,(by simp only[EV,seval,h4]),(by simp only[EV,seval,pN]),(by simp only[EV,seval,h7]),(by simp only[EV,seval,Fy]),(by simp only[EV,seval,h8]),hy,hx⟩
 case start=>exact⟨0,_,_,(by simp only[EV,seval]),(by simp only[EV,seval]),(by simp only[EV,seval]),(by simp only[EV,seval]),(by simp only[EV,seval]),(by simp only[EV,seval]<;>rfl),(by simp only[EV,seval]),(by simp only[EV,seval]<;>rfl),by omega,by omega,(by simp only[EV,seval]<;>rfl),.inl ⟨rfl,rfl⟩,.inl ⟨rfl,rfl⟩⟩
 case rest =>
  rintro e st ⟨rfl,x,y,h4,pN,h7,Fy,h8,hy,hx⟩
  have hlen:=wC ns i ns.length
  have gR:=N7 ns hu i0 i1
  rcases hy with ⟨rfl,hy⟩|⟨g,rfl,hg,hy⟩|⟨g,rfl,hg,hy⟩<;>rcases hx with ⟨rfl,hx⟩|⟨g',rfl,KR,hx⟩
  ·exact absurd hx gR
  ·rw[hy] at hlen;simp at hlen;omega
  ·exact absurd hx gR
  ·simp only[ZZ,seval,h4,pN,h7,Fy,h8];exact fM rfl (by simp only[bY,ZZ,seval,h4,pN,h7,Fy,h8];rfl) (by simp only[bY,EV,seval]<;>rfl) (by simp only[bY,EV,seval]<;>rfl) (by simp only[EV,seval,hx,Option.map_some]<;>rfl) (by simp only[EV,seval,hy]) (by simp only[EV,seval])
  ·exact absurd hx gR
  ·simp only[ZZ,seval,h4,pN,h7,Fy,h8];exact fM rfl (by simp only[bY,ZZ,seval,h4,pN,h7,Fy,h8];rfl) (by simp only[bY,EV,seval]<;>rfl) (by simp only[bY,EV,seval]<;>rfl) (by simp only[EV,seval,hx,Option.map_some]<;>rfl) (by simp only[EV,seval,hy]) (by simp only[EV,seval])
theorem z6 {P:Program} {b:Code} {st:St} {k:Ex × St→Option (Ex × St)} {R:Ex→St→Prop} (Inv:Nat→St→Prop) (Q:Ex→St→Prop) (n:Nat)
 (step:∀n st,Inv n st→∃e st',zC P b st=some (e,st')∧((e=.normal∧∃m,m<n∧Inv m st')∨(e≠.normal∧Q e st')))
 (start:Inv n st) (rest:∀e st',Q e st'→∃e' N9,k (e,st')=some (e',N9)∧R e' N9):∃e' N9,cS (zC P (.loop b) st) k=some (e',N9)∧R e' N9:=by
 obtain⟨e,s1,h1,h2,h3⟩:=Qj Inv Q step n st start
 rw[h1];exact rest e s1 h3
theorem O0 {x:Option (Ex × St)} {st':St} {n:Nat} {Inv:Nat→St→Prop} {Q:Ex→St→Prop} (h:x=some (.normal,st')) (m:Nat) (hm:m<n) (hi:Inv m st') :
 ∃e st',x=some (e,st')∧((e=.normal∧∃m,m<n∧Inv m st')∨(e≠.normal∧Q e st')):=⟨_,_,h,.inl ⟨rfl,m,hm,hi⟩⟩
theorem z7 {call:Nat→List AV→Option AV} {ops:Array Oper} {st:St} {T:Nat} {pos:String} {eQ:Array Edge} (d:Nat) (x y:Operand) {a b:Int} (h1:st.ev x=.v (.int .i64 a)) (h2:st.ev y=.v (.int .i64 b)):cH Tryz.prog call ops ⟨some d,.buildSlice 22 2 #[(0,x),(1,y)],T,pos,eQ,none⟩ st =
 some ((st.new d (.row 3 1 2 (aK [a,b]))).put (some d) (.own d (st.aQ d))):=by
 rw[kY];simp[Ky,ze3,cS,h1,h2,AV.jD,Value.oneCell',gS,AV.cells,List.range,List.range.loop,aK,qS]
theorem Eg {call:Nat→List AV→Option AV} {ops:Array Oper} {st:St} {T:Nat} {pos:String} {eQ:Array Edge} (d:Nat) (x y:Operand):cH Tryz.prog call ops ⟨some d,.buildSlice 22 2 #[(0,x),(1,y)],T,pos,eQ,none⟩ st =
 Kz (st.ev x) (fun a=>Kz (st.ev y) (fun b=>some ((st.new d (.row 3 1 2 (aK [a,b]))).put (some d) (.own d (st.aQ d)))) (cH Tryz.prog call ops ⟨some d,.buildSlice 22 2 #[(0,x),(1,y)],T,pos,eQ,none⟩ st))
  (cH Tryz.prog call ops ⟨some d,.buildSlice 22 2 #[(0,x),(1,y)],T,pos,eQ,none⟩ st):=by
 unfold Kz;split
 ·rename_i a h1;try dsimp only
  split
  ·rename_i b h2;exact z7 d x y h1 h2
  ·rfl
 ·rfl
def Fz (ns:List Node) (i:Int):Nat→List Int
 | 0=>[]
 | k+1=>if tP ns i k=true then Fz ns i k++[(k:Int)] else Fz ns i k
theorem Uz (ns:List Node) (i:Int):∀k,(Fz ns i k).length≤k
 | 0=>Nat.le_refl _
 | k+1=>by
   have:=Uz ns i k
   simp only[Fz];split
   ·simp;omega
   ·omega
theorem TK {ns:List Node} (hu:gM ns) {i:Int} (i0:0≤i) (i1:i<ns.length):∀k:Nat,i<k→Fz ns i k≠[]
 | 0,h=>by omega
 | k+1,h=>by
   simp only[Fz];by_cases hk:i=k
   ·rw[if_pos (by unfold tP;rw[← hk];exact decide_eq_true (vG hu i0 i1))];simp
   ·have:=TK hu i0 i1 k (by omega)
    split
    ·simp
    ·exact this
theorem YQ (ns:List Node) (i x:Int):∀k:Nat,x∈Fz ns i k↔(0≤x∧x<k)∧tP ns i x=true
 | 0=>by simp[Fz];intro h h';omega
 | k+1=>by
   have ih:=YQ ns i x k
   simp only[Fz];split
   ·rename_i h;rw[List.mem_append,ih,List.mem_singleton];constructor
    ·rintro (⟨h1,h2⟩|rfl)
     ·exact⟨by omega,h2⟩
     ·exact⟨by omega,h⟩
    ·rintro⟨h1,h2⟩
     by_cases hk:x=k
     ·exact .inr hk
     ·exact .inl ⟨by omega,h2⟩
   ·rename_i h;rw[ih];constructor
    ·rintro⟨h1,h2⟩;exact⟨by omega,h2⟩
    ·rintro⟨h1,h2⟩
     by_cases hk:x=k
     ·subst hk;exact absurd h2 h
     ·exact⟨by omega,h2⟩
theorem aPs (ns:List Node) (hu:gM ns) (hr:(nd ns 0).up<0) (hn:(ns.length:Int)<1000000) (i:Int) (i0:0≤i) (i1:i<ns.length):aB Tryz.prog 125 [.agg (cO ⟨ns⟩),.v (.int .i64 i)] =
 some (.eE [.agg (cO ⟨(jT ns i ns.length).1⟩),.sl (jT ns i ns.length).2.length (aK (jT ns i ns.length).2),.v (.int .i64 0)]):=by
 have hi0:decide (i<0)=false:=by simp;omega
 have hi1:decide ((ns.length:Int)≤i)=false:=by simp;omega
 rw[cL Tryz.func125 rfl aJ9 rfl];simp only[ZZ,seval,hi0,hi1];refine kI (fun n st=>∃(k:Nat) (x y:AV),st.env 4=.ptr 4 0 0∧st.heap 4 0=some (.cells [x])∧st.env 1=.v (.int .i64 i)∧st.env 21=.sl ns.length (bZ ns)∧st.env 22=.v (.int .i64 ns.length)∧st.env 23=.v (.int .i64 k) ∧
  k≤ns.length∧n=ns.length-k∧st.env 5=y∧aB6 st 50 58 y (jT ns i k).2∧aB7 st 63 x (jT ns i k).1)
  (fun e st=>e=.exit 0∧∃(x y:AV),st.env 4=.ptr 4 0 0∧st.heap 4 0=some (.cells [x])∧st.env 5=y∧aB6 st 50 58 y (jT ns i ns.length).2∧aB7 st 63 x (jT ns i ns.length).1) ns.length ?step ?start ?rest
 case step =>
  rintro n st ⟨k,x,y,h4,pN,h1,Aj,Ca,Wg,hk,Gj,h5,hy,hx⟩
  have hlen:=wC ns i k
  have N8:=Iy ns i k
  have yC:((jT ns i k).2.length:Int)<1000000:=by omega
  have Tx:((jT ns i k).1.length:Int)<1000000:=by omega
  by_cases bA:(k:Int)<ns.length
  ·have hw:IntKind.i64.wrap ((k:Int)+1)=((k+1:Nat):Int):=by rw[Fx _ (by omega) (by omega)];simp
   have k0:(0:Int)≤k:=by omega
   have Sr:=Ng hu i0 i1
   by_cases TJ:(k:Int)=i
   ·have hq:((k:Int) != i)=false:=by simp[TJ]
    have hs:jT ns i (k+1)=((jT ns i k).1++[{ nd ns k with up:=-1 }],(jT ns i k).2++[((jT ns i k).1.length:Int)]):=by simp only[jT,TJ,Sr,if_true]
    rcases hy with ⟨rfl,hy⟩|⟨g,rfl,hg,hy⟩|⟨g,rfl,hg,hy⟩<;>rcases hx with ⟨rfl,hx⟩|⟨g',rfl,KR,hx⟩
    ·rw[hy,hx] at hs;apply oN ((ns.length-(k+1)))
     ·simp only[ZZ,seval,h4,pN,h1,Aj,Ca,Wg,h5,bA,k0,hw,hq];rfl
     ·exact⟨k+1,_,_,(by simp only[EV,seval,h4]),(by simp only[EV,seval]<;>rfl),(by simp only[EV,seval,h1]),(by simp only[EV,seval,Aj]),(by simp only[EV,seval,Ca]),(by simp only[EV,seval]),by omega,by omega,(by simp only[EV,seval]<;>rfl),(by rw[hs];(try simp only[List.nil_append]);exact .inr (.inr ⟨_,rfl,(by simp only[EV,seval]<;>omega),(by simp only[EV,seval]<;>rfl)⟩)),(by rw[hs];(try simp only[List.nil_append]);exact .inr ⟨_,rfl,(by simp only[EV,seval]<;>omega),(by simp only[EV,seval]<;>rfl)⟩)⟩
    ·rw[hy] at hs;apply oN ((ns.length-(k+1)))
     ·simp only[ZZ,seval,h4,pN,h1,Aj,Ca,Wg,h5,bA,k0,hw,hq,hx,Tx];rfl
     ·exact⟨k+1,_,_,(by simp only[EV,seval,h4]),(by simp only[EV,seval]<;>rfl),(by simp only[EV,seval,h1]),(by simp only[EV,seval,Aj]),(by simp only[EV,seval,Ca]),(by simp only[EV,seval]),by omega,by omega,(by simp only[EV,seval]<;>rfl),(by rw[hs];(try simp only[List.nil_append]);exact .inr (.inr ⟨_,rfl,(by simp only[EV,seval]<;>omega),(by simp only[EV,seval]<;>rfl)⟩)),(by rw[hs];(try simp only[List.nil_append]);exact .inr ⟨_,rfl,(by simp only[EV,seval]<;>omega),(by simp only[EV,seval]<;>rfl)⟩)⟩
    ·rw[hx] at hs;apply oN ((ns.length-(k+1)))
     ·simp only[ZZ,seval,h4,pN,h1,Aj,Ca,Wg,h5,bA,k0,hw,hq,hy,yC];rfl
     ·exact⟨k+1,_,_,(by simp only[EV,seval,h4]),(by simp only[EV,seval]<;>rfl),(by simp only[EV,seval,h1]),(by simp only[EV,seval,Aj]),(by simp only[EV,seval,Ca]),(by simp only[EV,seval]),by omega,by omega,(by simp only[EV,seval]<;>rfl),(by rw[hs];(try simp only[List.nil_append]);exact .inr (.inr ⟨_,rfl,(by simp only[EV,seval]<;>omega),(by simp only[EV,seval]<;>rfl)⟩)),(by rw[hs];(try simp only[List.nil_append]);exact .inr ⟨_,rfl,(by simp only[EV,seval]<;>omega),(by simp only[EV,seval]<;>rfl)⟩)⟩
    ·apply oN ((ns.length-(k+1)))
     ·simp only[ZZ,seval,h4,pN,h1,Aj,Ca,Wg,h5,bA,k0,hw,hq,hy,yC,hx,Tx];rfl
     ·exact⟨k+1,_,_,(by simp only[EV,seval,h4]),(by simp only[EV,seval]<;>rfl),(by simp only[EV,seval,h1]),(by simp only[EV,seval,Aj]),(by simp only[EV,seval,Ca]),(by simp only[EV,seval]),by omega,by omega,(by simp only[EV,seval]<;>rfl),(by rw[hs];(try simp only[List.nil_append]);exact .inr (.inr ⟨_,rfl,(by simp only[EV,seval]<;>omega),(by simp only[EV,seval]<;>rfl)⟩)),(by rw[hs];(try simp only[List.nil_append]);exact .inr ⟨_,rfl,(by simp only[EV,seval]<;>omega),(by simp only[EV,seval]<;>rfl)⟩)⟩
    ·rw[hx] at hs;apply oN ((ns.length-(k+1)))
     ·simp only[ZZ,seval,h4,pN,h1,Aj,Ca,Wg,h5,bA,k0,hw,hq,hy,yC];rfl
     ·exact⟨k+1,_,_,(by simp only[EV,seval,h4]),(by simp only[EV,seval]<;>rfl),(by simp only[EV,seval,h1]),(by simp only[EV,seval,Aj]),(by simp only[EV,seval,Ca]),(by simp only[EV,seval]),by omega,by omega,(by simp only[EV,seval]<;>rfl),(by rw[hs];(try simp only[List.nil_append]);exact .inr (.inr ⟨_,rfl,(by simp only[EV,seval]<;>omega),(by simp only[EV,seval]<;>rfl)⟩)),(by rw[hs];(try simp only[List.nil_append]);exact .inr ⟨_,rfl,(by simp only[EV,seval]<;>omega),(by simp only[EV,seval]<;>rfl)⟩)⟩
    ·apply oN ((ns.length-(k+1)))
     ·simp only[ZZ,seval,h4,pN,h1,Aj,Ca,Wg,h5,bA,k0,hw,hq,hy,yC,hx,Tx];rfl
     ·exact⟨k+1,_,_,(by simp only[EV,seval,h4]),(by simp only[EV,seval]<;>rfl),(by simp only[EV,seval,h1]),(by simp only[EV,seval,Aj]),(by simp only[EV,seval,Ca]),(by simp only[EV,seval]),by omega,by omega,(by simp only[EV,seval]<;>rfl),(by rw[hs];(try simp only[List.nil_append]);exact .inr (.inr ⟨_,rfl,(by simp only[EV,seval]<;>omega),(by simp only[EV,seval]<;>rfl)⟩)),(by rw[hs];(try simp only[List.nil_append]);exact .inr ⟨_,rfl,(by simp only[EV,seval]<;>omega),(by simp only[EV,seval]<;>rfl)⟩)⟩
   ·have hq:((k:Int) != i)=true:=by simp[TJ]
    rcases Nat.eq_zero_or_pos k with qA|qA
    ·have Mo:decide (0≤(nd ns k).up)=false:=by rw[qA];simp;omega
     have Bz:tP ns i k=false:=by rw[qA,show ((0:Nat):Int)=0 from rfl,We (by omega)];simp;omega
     have hs:jT ns i (k+1)=((jT ns i k).1,(jT ns i k).2++[-1]):=by simp[jT,Bz]
     rcases hy with ⟨rfl,hy⟩|⟨g,rfl,hg,hy⟩|⟨g,rfl,hg,hy⟩<;>rcases hx with ⟨rfl,hx⟩|⟨g',rfl,KR,hx⟩
     ·rw[hy,hx] at hs;apply oN ((ns.length-(k+1)))
      ·simp only[ZZ,seval,h4,pN,h1,Aj,Ca,Wg,h5,bA,k0,hw,hq,Mo];rfl
      ·exact⟨k+1,_,_,(by simp only[EV,seval,h4]),(by simp only[EV,seval,pN]<;>rfl),(by simp only[EV,seval,h1]),(by simp only[EV,seval,Aj]),(by simp only[EV,seval,Ca]),(by simp only[EV,seval]),by omega,by omega,(by simp only[EV,seval]<;>rfl),(by rw[hs];(try simp only[List.nil_append]);exact .inr (.inl ⟨_,rfl,(by simp only[EV,seval]<;>omega),(by simp only[EV,seval]<;>rfl)⟩)),(by rw[hs];exact .inl ⟨rfl,rfl⟩)⟩
     ·rw[hy] at hs;apply oN ((ns.length-(k+1)))
      ·simp only[ZZ,seval,h4,pN,h1,Aj,Ca,Wg,h5,bA,k0,hw,hq,Mo,hx,Tx];rfl
      ·exact⟨k+1,_,_,(by simp only[EV,seval,h4]),(by simp only[EV,seval,pN]<;>rfl),(by simp only[EV,seval,h1]),(by simp only[EV,seval,Aj]),(by simp only[EV,seval,Ca]),(by simp only[EV,seval]),by omega,by omega,(by simp only[EV,seval]<;>rfl),(by rw[hs];(try simp only[List.nil_append]);exact .inr (.inl ⟨_,rfl,(by simp only[EV,seval]<;>omega),(by simp only[EV,seval]<;>rfl)⟩)),(by rw[hs];exact .inr ⟨_,rfl,(by simp only[EV,seval]<;>omega),(by simp only[EV,seval,hx])⟩)⟩
     ·rw[hx] at hs;apply oN ((ns.length-(k+1)))
      ·simp only[ZZ,seval,h4,pN,h1,Aj,Ca,Wg,h5,bA,k0,hw,hq,Mo,hy,yC];rfl
      ·exact⟨k+1,_,_,(by simp only[EV,seval,h4]),(by simp only[EV,seval,pN]<;>rfl),(by simp only[EV,seval,h1]),(by simp only[EV,seval,Aj]),(by simp only[EV,seval,Ca]),(by simp only[EV,seval]),by omega,by omega,(by simp only[EV,seval]<;>rfl),(by rw[hs];(try simp only[List.nil_append]);exact .inr (.inl ⟨_,rfl,(by simp only[EV,seval]<;>omega),(by simp only[EV,seval]<;>rfl)⟩)),(by rw[hs];exact .inl ⟨rfl,rfl⟩)⟩
     ·apply oN ((ns.length-(k+1)))
      ·simp only[ZZ,seval,h4,pN,h1,Aj,Ca,Wg,h5,bA,k0,hw,hq,Mo,hy,yC,hx,Tx];rfl
      ·exact⟨k+1,_,_,(by simp only[EV,seval,h4]),(by simp only[EV,seval,pN]<;>rfl),(by simp only[EV,seval,h1]),(by simp only[EV,seval,Aj]),(by simp only[EV,seval,Ca]),(by simp only[EV,seval]),by omega,by omega,(by simp only[EV,seval]<;>rfl),(by rw[hs];(try simp only[List.nil_append]);exact .inr (.inl ⟨_,rfl,(by simp only[EV,seval]<;>omega),(by simp only[EV,seval]<;>rfl)⟩)),(by rw[hs];exact .inr ⟨_,rfl,(by simp only[EV,seval]<;>omega),(by simp only[EV,seval,hx])⟩)⟩
     ·rw[hx] at hs;apply oN ((ns.length-(k+1)))
      ·simp only[ZZ,seval,h4,pN,h1,Aj,Ca,Wg,h5,bA,k0,hw,hq,Mo,hy,yC];rfl
      ·exact⟨k+1,_,_,(by simp only[EV,seval,h4]),(by simp only[EV,seval,pN]<;>rfl),(by simp only[EV,seval,h1]),(by simp only[EV,seval,Aj]),(by simp only[EV,seval,Ca]),(by simp only[EV,seval]),by omega,by omega,(by simp only[EV,seval]<;>rfl),(by rw[hs];(try simp only[List.nil_append]);exact .inr (.inl ⟨_,rfl,(by simp only[EV,seval]<;>omega),(by simp only[EV,seval]<;>rfl)⟩)),(by rw[hs];exact .inl ⟨rfl,rfl⟩)⟩
     ·apply oN ((ns.length-(k+1)))
      ·simp only[ZZ,seval,h4,pN,h1,Aj,Ca,Wg,h5,bA,k0,hw,hq,Mo,hy,yC,hx,Tx];rfl
      ·exact⟨k+1,_,_,(by simp only[EV,seval,h4]),(by simp only[EV,seval,pN]<;>rfl),(by simp only[EV,seval,h1]),(by simp only[EV,seval,Aj]),(by simp only[EV,seval,Ca]),(by simp only[EV,seval]),by omega,by omega,(by simp only[EV,seval]<;>rfl),(by rw[hs];(try simp only[List.nil_append]);exact .inr (.inl ⟨_,rfl,(by simp only[EV,seval]<;>omega),(by simp only[EV,seval]<;>rfl)⟩)),(by rw[hs];exact .inr ⟨_,rfl,(by simp only[EV,seval]<;>omega),(by simp only[EV,seval,hx])⟩)⟩
    ·obtain⟨u0,u1'⟩:=hu k (by omega) bA
     have u1:(nd ns k).up<(jT ns i k).2.length:=by rw[hlen];exact u1'
     have TB:=LG ns i k (nd ns k).up u0 (by omega)
     have hstep:=N6 hu (show (0:Int)<k by omega) bA (Ne.symm TJ)
     cases Bz:tP ns i k
     ·have GF:decide (it (jT ns i k).2 (nd ns k).up<0)=true:=by
       rw[← hstep,Bz] at TB;simp at TB ⊢;exact TB
      have hs:jT ns i (k+1)=((jT ns i k).1,(jT ns i k).2++[-1]):=by simp[jT,Bz]
      rcases hy with ⟨rfl,hy⟩|⟨g,rfl,hg,hy⟩|⟨g,rfl,hg,hy⟩<;>rcases hx with ⟨rfl,hx⟩|⟨g',rfl,KR,hx⟩
      ·exfalso;rw[hy] at u1;simp at u1;omega
      ·exfalso;rw[hy] at u1;simp at u1;omega
      ·rw[hx] at hs;apply oN ((ns.length-(k+1)))
       ·simp only[ZZ,seval,h4,pN,h1,Aj,Ca,Wg,h5,bA,k0,hw,hq,u0,u1,GF,hy,yC];rfl
       ·exact⟨k+1,_,_,(by simp only[EV,seval,h4]),(by simp only[EV,seval,pN]<;>rfl),(by simp only[EV,seval,h1]),(by simp only[EV,seval,Aj]),(by simp only[EV,seval,Ca]),(by simp only[EV,seval]),by omega,by omega,(by simp only[EV,seval]<;>rfl),(by rw[hs];(try simp only[List.nil_append]);exact .inr (.inl ⟨_,rfl,(by simp only[EV,seval]<;>omega),(by simp only[EV,seval]<;>rfl)⟩)),(by rw[hs];exact .inl ⟨rfl,rfl⟩)⟩
      ·apply oN ((ns.length-(k+1)))
       ·simp only[ZZ,seval,h4,pN,h1,Aj,Ca,Wg,h5,bA,k0,hw,hq,u0,u1,GF,hy,yC,hx,Tx];rfl
       ·exact⟨k+1,_,_,(by simp only[EV,seval,h4]),(by simp only[EV,seval,pN]<;>rfl),(by simp only[EV,seval,h1]),(by simp only[EV,seval,Aj]),(by simp only[EV,seval,Ca]),(by simp only[EV,seval]),by omega,by omega,(by simp only[EV,seval]<;>rfl),(by rw[hs];(try simp only[List.nil_append]);exact .inr (.inl ⟨_,rfl,(by simp only[EV,seval]<;>omega),(by simp only[EV,seval]<;>rfl)⟩)),(by rw[hs];exact .inr ⟨_,rfl,(by simp only[EV,seval]<;>omega),(by simp only[EV,seval,hx])⟩)⟩
      ·rw[hx] at hs;apply oN ((ns.length-(k+1)))
       ·simp only[ZZ,seval,h4,pN,h1,Aj,Ca,Wg,h5,bA,k0,hw,hq,u0,u1,GF,hy,yC];rfl
       ·exact⟨k+1,_,_,(by simp only[EV,seval,h4]),(by simp only[EV,seval,pN]<;>rfl),(by simp only[EV,seval,h1]),(by simp only[EV,seval,Aj]),(by simp only[EV,seval,Ca]),(by simp only[EV,seval]),by omega,by omega,(by simp only[EV,seval]<;>rfl),(by rw[hs];(try simp only[List.nil_append]);exact .inr (.inl ⟨_,rfl,(by simp only[EV,seval]<;>omega),(by simp only[EV,seval]<;>rfl)⟩)),(by rw[hs];exact .inl ⟨rfl,rfl⟩)⟩
      ·apply oN ((ns.length-(k+1)))
       ·simp only[ZZ,seval,h4,pN,h1,Aj,Ca,Wg,h5,bA,k0,hw,hq,u0,u1,GF,hy,yC,hx,Tx];rfl
       ·exact⟨k+1,_,_,(by simp only[EV,seval,h4]),(by simp only[EV,seval,pN]<;>rfl),(by simp only[EV,seval,h1]),(by simp only[EV,seval,Aj]),(by simp only[EV,seval,Ca]),(by simp only[EV,seval]),by omega,by omega,(by simp only[EV,seval]<;>rfl),(by rw[hs];(try simp only[List.nil_append]);exact .inr (.inl ⟨_,rfl,(by simp only[EV,seval]<;>omega),(by simp only[EV,seval]<;>rfl)⟩)),(by rw[hs];exact .inr ⟨_,rfl,(by simp only[EV,seval]<;>omega),(by simp only[EV,seval,hx])⟩)⟩
     ·have GF:decide (it (jT ns i k).2 (nd ns k).up<0)=false:=by
       rw[← hstep,Bz] at TB;simp at TB ⊢;exact TB
      have hs:jT ns i (k+1)=((jT ns i k).1++[{ nd ns k with up:=it (jT ns i k).2 (nd ns k).up }],(jT ns i k).2++[((jT ns i k).1.length:Int)]):=by simp only[jT,Bz,if_true,if_neg TJ]
      rcases hy with ⟨rfl,hy⟩|⟨g,rfl,hg,hy⟩|⟨g,rfl,hg,hy⟩<;>rcases hx with ⟨rfl,hx⟩|⟨g',rfl,KR,hx⟩
      ·exfalso;rw[hy] at u1;simp at u1;omega
      ·exfalso;rw[hy] at u1;simp at u1;omega
      ·rw[hx] at hs;apply oN ((ns.length-(k+1)))
       ·simp only[ZZ,seval,h4,pN,h1,Aj,Ca,Wg,h5,bA,k0,hw,hq,u0,u1,GF,hy,yC];rfl
       ·exact⟨k+1,_,_,(by simp only[EV,seval,h4]),(by simp only[EV,seval]<;>rfl),(by simp only[EV,seval,h1]),(by simp only[EV,seval,Aj]),(by simp only[EV,seval,Ca]),(by simp only[EV,seval]),by omega,by omega,(by simp only[EV,seval]<;>rfl),(by rw[hs];(try simp only[List.nil_append]);exact .inr (.inr ⟨_,rfl,(by simp only[EV,seval]<;>omega),(by simp only[EV,seval]<;>rfl)⟩)),(by rw[hs];(try simp only[List.nil_append]);exact .inr ⟨_,rfl,(by simp only[EV,seval]<;>omega),(by simp only[EV,seval]<;>rfl)⟩)⟩
      ·apply oN ((ns.length-(k+1)))
       ·simp only[ZZ,seval,h4,pN,h1,Aj,Ca,Wg,h5,bA,k0,hw,hq,u0,u1,GF,hy,yC,hx,Tx];rfl
       ·exact⟨k+1,_,_,(by simp only[EV,seval,h4]),(by simp only[EV,seval]<;>rfl),(by simp only[EV,seval,h1]),(by simp only[EV,seval,Aj]),(by simp only[EV,seval,Ca]),(by simp only[EV,seval]),by omega,by omega,(by simp only[EV,seval]<;>rfl),(by rw[hs];(try simp only[List.nil_append]);exact .inr (.inr ⟨_,rfl,(by simp only[EV,seval]<;>omega),(by simp only[EV,seval]<;>rfl)⟩)),(by rw[hs];(try simp only[List.nil_append]);exact .inr ⟨_,rfl,(by simp only[EV,seval]<;>omega),(by simp only[EV,seval]<;>rfl)⟩)⟩
      ·rw[hx] at hs;apply oN ((ns.length-(k+1)))
       ·simp only[ZZ,seval,h4,pN,h1,Aj,Ca,Wg,h5,bA,k0,hw,hq,u0,u1,GF,hy,yC];rfl
       ·exact⟨k+1,_,_,(by simp only[EV,seval,h4]),(by simp only[EV,seval]<;>rfl),(by simp only[EV,seval,h1]),(by simp only[EV,seval,Aj]),(by simp only[EV,seval,Ca]),(by simp only[EV,seval]),by omega,by omega,(by simp only[EV,seval]<;>rfl),(by rw[hs];(try simp only[List.nil_append]);exact .inr (.inr ⟨_,rfl,(by simp only[EV,seval]<;>omega),(by simp only[EV,seval]<;>rfl)⟩)),(by rw[hs];(try simp only[List.nil_append]);exact .inr ⟨_,rfl,(by simp only[EV,seval]<;>omega),(by simp only[EV,seval]<;>rfl)⟩)⟩
      ·apply oN ((ns.length-(k+1)))
       ·simp only[ZZ,seval,h4,pN,h1,Aj,Ca,Wg,h5,bA,k0,hw,hq,u0,u1,GF,hy,yC,hx,Tx];rfl
       ·exact⟨k+1,_,_,(by simp only[EV,seval,h4]),(by simp only[EV,seval]<;>rfl),(by simp only[EV,seval,h1]),(by simp only[EV,seval,Aj]),(by simp only[EV,seval,Ca]),(by simp only[EV,seval]),by omega,by omega,(by simp only[EV,seval]<;>rfl),(by rw[hs];(try simp only[List.nil_append]);exact .inr (.inr ⟨_,rfl,(by simp only[EV,seval]<;>omega),(by simp only[EV,seval]<;>rfl)⟩)),(by rw[hs];(try simp only[List.nil_append]);exact .inr ⟨_,rfl,(by simp only[EV,seval]<;>omega),(by simp only[EV,seval]<;>rfl)⟩)⟩
  ·have Az:k=ns.length:=by omega
   subst Az;apply oT (.exit 0)
   ·simp only[ZZ,seval,h4,pN,h1,Aj,Ca,Wg,bA,h5];rfl
   ·exact⟨rfl,x,y,(by simp only[EV,seval,h4]),(by simp only[EV,seval,pN]),(by simp only[EV,seval,h5]),hy,hx⟩
 case start=>exact⟨0,_,_,(by simp only[EV,seval]),(by simp only[EV,seval]<;>rfl),(by simp only[EV,seval]),(by simp only[EV,seval]),(by simp only[EV,seval]),(by simp only[EV,seval]),by omega,by omega,(by simp only[EV,seval]<;>rfl),.inl ⟨rfl,rfl⟩,.inl ⟨rfl,rfl⟩⟩
 case rest =>
  rintro e st ⟨rfl,x,y,h4,pN,h5,hy,hx⟩
  have hlen:=wC ns i ns.length
  have gR:=N7 ns hu i0 i1
  rcases hy with ⟨rfl,hy⟩|⟨g,rfl,hg,hy⟩|⟨g,rfl,hg,hy⟩<;>rcases hx with ⟨rfl,hx⟩|⟨g',rfl,KR,hx⟩
  ·exact absurd hx gR
  ·rw[hy] at hlen;simp at hlen;omega
  ·exact absurd hx gR
  ·simp only[ZZ,seval,h4,pN,h5];exact fM rfl (by simp only[bY,ZZ,seval,h4,pN,h5];rfl) (by simp only[bY,EV,seval]<;>rfl) (by simp only[bY,EV,seval]<;>rfl) (by simp only[EV,seval,hx,Option.map_some]<;>rfl) (by simp only[EV,seval,hy]) (by simp only[EV,seval])
  ·exact absurd hx gR
  ·simp only[ZZ,seval,h4,pN,h5];exact fM rfl (by simp only[bY,ZZ,seval,h4,pN,h5];rfl) (by simp only[bY,EV,seval]<;>rfl) (by simp only[bY,EV,seval]<;>rfl) (by simp only[EV,seval,hx,Option.map_some]<;>rfl) (by simp only[EV,seval,hy]) (by simp only[EV,seval])
def z8 (ns:List Node) (i:Int):AV:=.eE [.agg (cO ⟨(jT ns i ns.length).1⟩),.sl (jT ns i ns.length).2.length (aK (jT ns i ns.length).2),.v (.int .i64 0)]
theorem DR (ns:List Node) (i:Int):Flat (z8 ns i):=.eE _ (mD (mC _) (Kx _) (.v _))
theorem aPu (ns:List Node) (hu:gM ns) (hr:(nd ns 0).up<0) (hn:(ns.length:Int)<1000000) (i:Int) (h:0≤i∧i<ns.length) (st:St) (d:Option Nat):aN (aB Tryz.prog) 125 [.agg (cO ⟨ns⟩),.v (.int .i64 i)] st d=some { dst:=d,val:=z8 ns i }:=bG (bE (mC _) (.v _)) (aPs ns hu hr hn i h.1 h.2) (DR ns i)
theorem k34 (ns:List Node) (hu:gM ns) (hn:(ns.length:Int)<1000000) (i:Int) (h:0≤i∧i<ns.length) (st:St) (d:Option Nat):aN (aB Tryz.prog) 34 [.agg (cO ⟨ns⟩),.v (.int .i64 i)] st d=some { dst:=d,val:=z8 ns i }:=bG (bE (mC _) (.v _)) (c34 ns hu hn i h.1 h.2) (DR ns i)
theorem TL {ns:List Node} (hu:gM ns) {i:Int}:∀k:Nat,k≤ns.length→∀a:Int,0≤a→a<k→tP ns i a=true →
 0≤it (jT ns i k).2 a∧it (jT ns i k).2 a<(jT ns i k).1.length∧nd (jT ns i k).1 (it (jT ns i k).2 a)={ nd ns a with up:=if a=i then -1 else it (jT ns i k).2 (nd ns a).up }
 | 0,_,a,a0,a1,_=>by omega
 | k+1,hk,a,a0,a1,ha=>by
   have hl:=wC ns i k
   have Mo:a≠i→0≤(nd ns a).up∧(nd ns a).up<a:=fun h=>by
    by_cases ha0:a=0
    ·subst ha0;rw[We (by omega)] at ha;simp at ha;omega
    ·exact hu a (by omega) (by omega)
   by_cases hak:a<k
   ·obtain⟨h1,h2,h3⟩:=TL hu k (by omega) a a0 hak ha
    simp only[jT];split
    ·simp only
     rw[kM a0 (by omega),Iz h1 h2,h3]
     refine⟨h1,by simp;omega, ?_⟩
     by_cases DS:a=i
     ·rw[if_pos DS,if_pos DS]
     ·obtain⟨u0,u1⟩:=Mo DS
      rw[if_neg DS,if_neg DS,kM u0 (by omega)]
    ·simp only
     rw[kM a0 (by omega),h3]
     refine⟨h1,h2, ?_⟩
     by_cases DS:a=i
     ·rw[if_pos DS,if_pos DS]
     ·obtain⟨u0,u1⟩:=Mo DS
      rw[if_neg DS,if_neg DS,kM u0 (by omega)]
   ·have hak:a=k:=by omega
    subst hak;simp only[jT,ha,if_true];rw[vI (by omega),DQ rfl]
    refine⟨by omega,by simp<;>omega, ?_⟩
    by_cases DS:(k:Int)=i
    ·rw[if_pos DS,if_pos DS]
    ·obtain⟨u0,u1⟩:=Mo DS
     rw[if_neg DS,if_neg DS,kM u0 (by omega)]
theorem La (ns:List Node) (i:Int):∀(d k:Nat) (a:Int),0≤a→a<k→it (jT ns i (k+d)).2 a=it (jT ns i k).2 a
 | 0,k,a,_,_=>rfl
 | d+1,k,a,a0,a1=>by
   have ih:=La ns i d k a a0 a1
   have hl:=wC ns i (k+d)
   rw[← ih,← Nat.add_assoc];simp only[jT];split
   ·simp only;rw[kM a0 (by omega)]
   ·simp only;rw[kM a0 (by omega)]
theorem aB8 {ns:List Node} {i:Int} {n:Nat} {k:Nat} (hk:k<n) (ha:tP ns i k=true):it (jT ns i n).2 k=(jT ns i k).1.length:=by
 obtain⟨d,rfl⟩:∃d,n=k+1+d:=⟨n-(k+1),by omega⟩
 rw[La ns i d (k+1) k (by omega) (by omega)]
 have hl:=wC ns i k
 simp only[jT,ha,if_true];rw[vI (by omega)]
theorem O1 {ns:List Node} (hu:gM ns) {i:Int} {n:Nat} (hn:n≤ns.length) {a b:Int} (a0:0≤a) (hab:a<b) (hb:b<n) (ha:tP ns i a=true) (oB:tP ns i b=true):it (jT ns i n).2 a<it (jT ns i n).2 b:=by
 obtain⟨k,rfl⟩:∃k:Nat,b=k:=⟨b.toNat,by omega⟩
 rw[aB8 (by omega) oB]
 obtain⟨d,rfl⟩:∃d,n=k+d:=⟨n-k,by omega⟩
 rw[La ns i d k a a0 hab];exact (TL hu k (by omega) a a0 hab ha).2.1
theorem Nh (ns:List Node) (i:Int):∀(k:Nat) (m:Int),0≤m→m<(jT ns i k).1.length→∃a:Int,0≤a∧a<k∧tP ns i a=true∧it (jT ns i k).2 a=m
 | 0,m,m0,m1=>by simp[jT] at m1;omega
 | k+1,m,m0,m1=>by
   have hl:=wC ns i k
   simp only[jT] at m1 ⊢;split at m1
   ·rename_i h;rw[if_pos h];simp only at m1 ⊢
    by_cases hm:m<(jT ns i k).1.length
    ·obtain⟨a,a0,a1,ha,he⟩:=Nh ns i k m m0 hm
     exact⟨a,a0,by omega,ha,by rw[kM a0 (by omega)];exact he⟩
    ·simp at m1
     exact⟨k,by omega,by omega,h,by rw[vI (by omega)];omega⟩
   ·rename_i h;rw[if_neg h];simp only at m1 ⊢
    obtain⟨a,a0,a1,ha,he⟩:=Nh ns i k m m0 m1
    exact⟨a,a0,by omega,ha,by rw[kM a0 (by omega)];exact he⟩
end Go.Ab.Tryz
section
namespace Go.Ab.Tryz
open Classical Go.Proofs Go.Ab
variable {ns:List Node} {i:Int}
theorem LH (hu:gM ns) {a:Int} (ha:tP ns i a=true):0≤it (jT ns i ns.length).2 a∧it (jT ns i ns.length).2 a<(jT ns i ns.length).1.length∧nd (jT ns i ns.length).1 (it (jT ns i ns.length).2 a)={ nd ns a with up:=if a=i then -1 else it (jT ns i ns.length).2 (nd ns a).up }:=by
 have h:=(Wd hu ha).2
 exact TL hu ns.length (Nat.le_refl _) a h.1 h.2 ha
theorem YR (hu:gM ns) {a b:Int} (hab:a<b) (ha:tP ns i a=true) (hb:tP ns i b=true):it (jT ns i ns.length).2 a<it (jT ns i ns.length).2 b :=
 O1 hu (Nat.le_refl _) (Wd hu ha).2.1 hab (Wd hu hb).2.2 ha hb
theorem YS (hu:gM ns) (hi:tP ns i i=true):it (jT ns i ns.length).2 i=0:=by
 obtain⟨h1,h2,_⟩:=LH hu hi
 obtain⟨a,a0,a1,ha,he⟩:=Nh ns i ns.length 0 (Int.le_refl 0) (by omega)
 have:=N5 hu ha
 by_cases h:i=a
 ·rw[h] at he ⊢;rw[← h] at he ⊢;exact he
 ·have:=YR hu (show i<a by omega) hi ha
  omega
theorem aKa (hu:gM ns) {a:Int} (ha:tP ns i a=true) (h:a≠i):0<a∧(0≤(nd ns a).up∧(nd ns a).up<a)∧tP ns i (nd ns a).up=true:=by
 obtain⟨⟨i0,_⟩,a0,a1⟩:=Wd hu ha
 have:=N5 hu ha
 have hp:0<a:=by omega
 refine⟨hp,hu a hp a1, ?_⟩
 rw[← N4 hu a1 (by omega) i0];exact ha
theorem aB9 (hu:gM ns) (hi:tP ns i i=true):gM (jT ns i ns.length).1:=by
 intro m m0 m1;obtain⟨a,a0,a1,ha,rfl⟩:=Nh ns i ns.length m (by omega) m1
 have DS:a≠i:=by rintro rfl;rw[YS hu hi] at m0;omega
 obtain⟨_,⟨u0,u1⟩,Mo⟩:=aKa hu ha DS
 rw[(LH hu ha).2.2];simp only[if_neg DS];exact⟨(LH hu Mo).1,YR hu u1 Mo ha⟩
end Go.Ab.Tryz
end
namespace Go.Ab.Tryz
open Classical Go.Proofs Go.Ab
structure Vld (ns:List Node):Prop where
 z9:0<ns.length
 aVZ:ns.length≤4096
 DT:(nd ns 0).up=-1
 up:gM ns
 par:∀i:Int,0<i→i<ns.length→(nd ns i).block.parent=(nd ns (nd ns i).up).block.root
 slot:∀i:Int,0<i→i<ns.length→(nd ns (nd ns i).up).block.slot<(nd ns i).block.slot
 roots:∀i j:Int,0≤i→i<j→j<ns.length→(nd ns i).block.root≠(nd ns j).block.root
 st:∀i:Int,0≤i→i<ns.length→TG (nd ns i).status=true
end Go.Ab.Tryz
namespace Go.Ab.Tryz
open Classical Go.Proofs Go.Ab
end Go.Ab.Tryz
namespace Go.Ab.Tryz
open Classical Go.Proofs Go.Ab
noncomputable def Ss (st:St) (e:Option nU) (o:Nat):Option AV :=
 match e with
 | some (.cells cs)=>(cM (cs.map (wK st))).map fun ds=>.ip ds o
 | _=>none
theorem oF (st:St) (f s g o:Nat):fO st (.rS f [.ptr s g o])=(Ss st (st.heap s g) o).map fun y=>.rS f [y]:=by
 have hn:¬Flat (.rS f [.ptr s g o]):=by intro h;cases h with|rS _ _ h=>exact yD s g o (h _ (by simp))
 unfold fO Ss;rw[if_neg hn];simp only[List.map_cons,List.map_nil];unfold cN;rw[if_neg (yD s g o)];simp only
 cases st.heap s g with
 | none=>rfl
 | some e=>cases e with
   | cells cs =>
     simp only
     cases cM (cs.map (wK st))<;>rfl
   | _=>rfl
theorem sS (st:St) {cs:List AV} (h:∀c∈cs,Flat c) (o:Nat):Ss st (some (.cells cs)) o=some (.ip cs o):=by
 unfold Ss;simp only[Gv h,Option.map_some]
theorem TM (st:St) (r:cJ) (o:Nat):Ss st (some (.cells (bD r))) o=some (.ip (bD r) o):=sS st (dT r) o
theorem aPv (n:Node) (r:cJ):aB Tryz.prog 151 [.agg (fG n),.ip (bD r) 0]=some (.v (.bool (decide (n.block.root=r)))):=by
 rw[cL Tryz.func151 rfl aKb rfl];simp only[ZZ,seval];exact bX rfl (by simp only[EV,seval]) (.v _)
theorem aCa (r:cJ):Flat (.ip (bD r) 0):=.ip _ _ (dT r)
theorem aKc (n:Node) (r:cJ) (st:St) (d:Option Nat):aN (aB Tryz.prog) 151 ([.agg (fG n)]++[.ip (bD r) 0]) st d=some { dst:=d,val:=.v (.bool (decide (n.block.root=r)))}:=bG (bE (.agg _ (Lb n)) (aCa r)) (aPv n r) (.v _)
theorem aPw (ns:List Node) (hn:(ns.length:Int)<1000000) (r:cJ):aB Tryz.prog 150 [.sl ns.length (bZ ns),.rS 151 [.ip (bD r) 0]]=some (.v (.int .i64 (aM ns r))):=by
 rw[cL Tryz.func150 rfl aKd rfl];simp only[ZZ,seval];refine kI (fun n st=>∃i:Int,(st.env 0=.sl ns.length (bZ ns)∧st.env 1=.rS 151 [.ip (bD r) 0]∧st.env 7=.v (.int .i64 ns.length)∧st.env 8=.v (.int .i64 i))∧0≤i∧i≤ns.length∧n=(ns.length-i).toNat∧∀j,0≤j→j<i→(nd ns j).block.root≠r)
  (fun e st=>(e=.ret∧st.env 4=.v (.int .i64 (aM ns r)))∨(e=.exit 0∧aM ns r=-1)) ns.length ?step ?start ?rest
 case step =>
  rintro n st ⟨i,hI,i0,i1,Gj,hb⟩
  by_cases bA:i<ns.length
  ·have hw:IntKind.i64.wrap (i+1)=i+1:=Fx _ (by omega) (by omega)
   by_cases hr:(nd ns i).block.root=r
   ·have hd:decide ((nd ns i).block.root=r)=true:=decide_eq_true hr
    apply oT (.ret)
    ·simp only[ZZ,seval,hI,bA,i0,aKc,hd];rfl
    ·exact .inl ⟨rfl,by simp only[EV,seval,LI i0 bA hr hb]⟩
   ·have hd:decide ((nd ns i).block.root=r)=false:=decide_eq_false hr
    apply oN ((ns.length-(i+1)).toNat)
    ·simp only[ZZ,seval,hI,bA,i0,aKc,hd,hw];rfl
    ·exact⟨i+1,by simp only[EV,seval,hI],by omega,by omega,rfl,fun j j0 j1=>by
     rcases Int.lt_or_eq_of_le (show j≤i by omega) with h|rfl
     ·exact hb j j0 h
     ·exact hr⟩
  ·apply oT (.exit 0)
   ·simp only[ZZ,seval,hI,bA,i0];rfl
   ·exact .inr ⟨rfl,Wh fun j j0 j1=>hb j j0 (by omega)⟩
 case start=>exact⟨0,(by simp only[EV,seval]),by omega,by omega,by omega,fun j _ _=>by omega⟩
 case rest =>
  rintro e st (⟨rfl,h⟩|⟨rfl,h⟩)
  ·simp only[ZZ,seval];exact bX rfl h (.v _)
  ·simp only[ZZ,seval];exact bX rfl (by simp only[EV,seval,h]) (.v _)
theorem aPx (args:List AV) (st:St) (d:Option Nat):aN (aB Tryz.prog) 150 args st d=tX (aB Tryz.prog) 150 (cM (args.map (fO st))) (decide (∀x∈args,Flat x)) st d:=jS _ _ _ _ _
theorem aPy (ns:List Node) (hn:(ns.length:Int)<1000000) (r:cJ) (fl:Bool) (st:St) (d:Option Nat):tX (aB Tryz.prog) 150 (some [.sl ns.length (bZ ns),.rS 151 [.ip (bD r) 0]]) fl st d=some { dst:=d,val:=.v (.int .i64 (aM ns r))}:=Su (aPw ns hn r)
theorem O2 (st:St) (n:Nat) (l:List Node):fO st (.sl n (bZ l))=some (.sl n (bZ l)):=eB (.sl _ _ (iD l))
theorem c89 (ns:List Node) (r:cJ) (hn:(ns.length:Int)<1000000):aB Tryz.prog 89 [.agg (cO ⟨ns⟩),.agg (bD r)]=some (.v (.int .i64 (aM ns r))):=by
 rw[cL Tryz.func89 rfl aPz rfl];simp only[ZZ,seval,aPx,oF,TM,O2,aPy,hn];exact bX rfl (by simp only[EV,seval]) (.v _)
theorem k89 (ns:List Node) (r:cJ) (hn:(ns.length:Int)<1000000) (st:St) (d:Option Nat):aN (aB Tryz.prog) 89 [.agg (cO ⟨ns⟩),.agg (bD r)] st d=some { dst:=d,val:=.v (.int .i64 (aM ns r))}:=bG (bE (mC _) (qR _)) (c89 ns r hn) (.v _)
end Go.Ab.Tryz
namespace Go.Ab.Tryz
open Classical Go.Proofs Go.Ab
end Go.Ab.Tryz
namespace Go.Ab.Tryz
open Classical Go.Proofs Go.Ab
noncomputable def aF0 (l:List Int):AV:=if l=[] then .v (.slice none 0 0) else .uniq 3 1 l.length (aK l)
theorem Wi:aF0 []=.v (.slice none 0 0):=if_pos rfl
theorem YT {l:List Int} (h:l≠[]):aF0 l=.uniq 3 1 l.length (aK l):=if_neg h
def Sv (ns:List Node) (i:Int):Nat→List Int
 | 0=>[]
 | k+1=>if (nd ns k).up=i then Sv ns i k++[(k:Int)] else Sv ns i k
theorem Va (ns:List Node) (i:Int):∀k,(Sv ns i k).length≤k
 | 0=>Nat.le_refl _
 | k+1=>by
   have:=Va ns i k
   simp only[Sv];split
   ·simp;omega
   ·omega
theorem LJ {ns:List Node} {i:Int}:∀k:Nat,(∀j:Int,0≤j→j<k→(nd ns j).up≠i)→Sv ns i k=[]
 | 0,_=>rfl
 | k+1,h=>by
   simp only[Sv];rw[if_neg (h k (by omega) (by omega))]
   exact LJ k fun j j0 j1=>h j j0 (by omega)
theorem aKe {ns:List Node} (hu:gM ns) (hr:(nd ns 0).up=-1) {j:Int} (j0:0≤j) (j1:j<ns.length):(nd ns j).up<ns.length:=by
 by_cases h:j=0
 ·subst h;omega
 ·have:=hu j (by omega) j1;omega
def wN (ns:List Node) (i:Int):List Int:=if i<0 then [] else Sv ns i ns.length
theorem LK {ns:List Node} (hu:gM ns) (hr:(nd ns 0).up=-1) {i:Int} (h:¬(0≤i∧i<ns.length)):wN ns i=[]:=by
 unfold wN;split
 ·rfl
 ·exact LJ _ fun j j0 j1=>by have:=aKe hu hr j0 j1;omega
theorem aKf (ns:List Node) (hu:gM ns) (hr:(nd ns 0).up=-1) (hn:(ns.length:Int)<1000000) (i:Int):aB Tryz.prog 245 [.agg (cO ⟨ns⟩),.v (.int .i64 i)]=some (aF0 (wN ns i)):=by
 rw[cL Tryz.func245 rfl aKg rfl];by_cases hm:0≤i∧i<ns.length
 ·have hd:(decide (0≤i) && decide (i<ns.length))=true:=by simp[hm.1,hm.2]
  rw[show wN ns i=Sv ns i ns.length from if_neg (by omega)]
  simp only[ZZ,seval];refine kI (fun n st=>∃k:Nat,(st.env 1=.v (.int .i64 i)∧st.env 2=.ptr 2 0 0∧st.heap 2 0=some (.cells (cO ⟨ns⟩))∧st.env 6=.v (.int .i64 k)) ∧
   ((Sv ns i k=[]∧st.env 5=.v (.slice none 0 0))∨(Sv ns i k≠[]∧∃g,st.env 5=.own 30 g∧g<st.aQ 30∧st.heap 30 g=some (.row 3 1 (Sv ns i k).length (aK (Sv ns i k)))))∧k≤ns.length∧n=ns.length-k)
   (fun e st=>e=.exit 0∧((Sv ns i ns.length=[]∧st.env 5=.v (.slice none 0 0))∨(Sv ns i ns.length≠[]∧∃g,st.env 5=.own 30 g∧g<st.aQ 30∧st.heap 30 g=some (.row 3 1 (Sv ns i ns.length).length (aK (Sv ns i ns.length)))))) ns.length ?step ?start ?rest
  case step =>
   rintro n st ⟨k,hI,h5,hk,Gj⟩
   have hl:=Va ns i k
   have Gk:((Sv ns i k).length:Int)<1000000:=by omega
   by_cases bA:(k:Int)<ns.length
   ·have hw:IntKind.i64.wrap ((k:Int)+1)=((k+1:Nat):Int):=by rw[Fx _ (by omega) (by omega)];omega
    have q0:(0:Int)≤k:=by omega
    by_cases hu:(nd ns k).up=i
    ·have hq:((nd ns k).up == i)=true:=by simp[hu]
     have hs:Sv ns i (k+1)=Sv ns i k++[(k:Int)]:=by simp only[Sv,hu,if_true]
     rcases h5 with ⟨hy,h5⟩|⟨hy,g,h5⟩
     ·rw[hy] at hs;apply oN (ns.length-(k+1))
      ·simp only[ZZ,seval,hI,h5,bA,hw,q0,hq,SK,hd];rfl
      ·exact⟨k+1,by simp only[EV,seval,hI],.inr ⟨by rw[hs];simp,_,by simp only[EV,seval]<;>rfl,(by simp only[EV,seval]<;>omega),(by rw[hs];simp only[EV,seval]<;>rfl)⟩,by omega,rfl⟩
     ·apply oN (ns.length-(k+1))
      ·simp only[ZZ,seval,hI,h5,Gk,bA,hw,q0,hq,SK,hd];rfl
      ·exact⟨k+1,by simp only[EV,seval,hI],.inr ⟨by rw[hs];simp,_,by simp only[EV,seval]<;>rfl,(by simp only[EV,seval]<;>omega),(by rw[hs];simp only[EV,seval]<;>rfl)⟩,by omega,rfl⟩
    ·have hq:((nd ns k).up == i)=false:=by simp[hu]
     have hs:Sv ns i (k+1)=Sv ns i k:=by simp only[Sv,hu,if_false]
     apply oN (ns.length-(k+1))
     ·simp only[ZZ,seval,hI,bA,hw,q0,hq,SK,hd];rfl
     ·exact⟨k+1,by simp only[EV,seval,hI],by rw[hs];simpa only[EV,seval] using h5,by omega,rfl⟩
   ·obtain rfl:k=ns.length:=by omega
    apply oT (.exit 0)
    ·simp only[ZZ,seval,hI,bA];rfl
    ·exact⟨rfl,by simpa only[EV,seval] using h5⟩
  case start=>exact⟨0,(by simp only[EV,seval]),.inl ⟨rfl,(by simp only[EV,seval])⟩,by omega,rfl⟩
  case rest =>
   rintro e st ⟨rfl,⟨hy,h5⟩|⟨hy,g,h5,hg,Ak⟩⟩
   ·rw[hy,Wi];simp only[ZZ,seval,h5];exact bX rfl (by simp only[EV,seval]) (.v _)
   ·rw[YT hy];simp only[ZZ,seval,h5,Ak];exact tO rfl (by simp only[EV,seval];rfl) (by simp only[EV,seval,Ak]) (gF _)
 ·have hd:(decide (0≤i) && decide (i<ns.length))=false:=by
   rw[← Bool.not_eq_true];simpa using hm
  rw[LK hu hr hm,Wi];by_cases h0:(0:Int)<ns.length
  ·simp only[ZZ,seval,Gs,SK,hd,h0];exact bX rfl (by simp only[EV,seval]) (.v _)
  ·simp only[ZZ,seval,Gs,SK,hd,h0];exact bX rfl (by simp only[EV,seval]) (.v _)
theorem aKh (ns:List Node) (hu:gM ns) (hr:(nd ns 0).up=-1) (hn:(ns.length:Int)<1000000) (i:Int) (h:wN ns i≠[]) (st:St) (d:Nat):aN (aB Tryz.prog) 245 [.agg (cO ⟨ns⟩),.v (.int .i64 i)] st (some d)=some { dst:=some d,val:=.own d (st.aQ d),new:=some (d,[.row 3 1 (wN ns i).length (aK (wN ns i))])}:=by
 have hc:=aKf ns hu hr hn i
 rw[YT h] at hc;exact jF (bE (mC _) (.v _)) hc
theorem aEO (ns:List Node) (hu:gM ns) (hr:(nd ns 0).up=-1) (hn:(ns.length:Int)<1000000) (i:Int) (h:wN ns i=[]) (st:St) (d:Option Nat):aN (aB Tryz.prog) 245 [.agg (cO ⟨ns⟩),.v (.int .i64 i)] st d=some { dst:=d,val:=.v (.slice none 0 0)}:=by
 have hc:=aKf ns hu hr hn i
 rw[h,Wi] at hc;exact bG (bE (mC _) (.v _)) hc (.v _)
end Go.Ab.Tryz
namespace Go.Ab.Tryz
open Classical Go.Proofs Go.Ab
end Go.Ab.Tryz
namespace Go.Ab.Tryz
open Classical Go.Proofs Go.Ab
theorem Wj [Ext] {P:Program} {f:Nat} {fn:Func} {st:St} {e:Ex} {r:ResultVar} {x y:AV} (hk:Ext.qO f=true) (he:e=.ret∨e=.normal) (hr:fn.results.toList=[r]) (h1:bY P st r=some x) (hn:(lV x).Nodup) (hy:Cp st x=some y):Al P f fn (e,st)=some y:=by
 have h:jQ P f fn st=some y:=by
  unfold jQ;rw[hk,if_pos rfl];unfold Mu;rw[hr];simp only[rH,h1,cS,if_pos hn,hy]
 rcases he with rfl|rfl<;>exact h
theorem LM [Ext] {P:Program} {f:Nat} {fn:Func} {st:St} {e:Ex} {r1 r2:ResultVar} {x1 x2 y:AV} (hk:Ext.qO f=true) (he:e=.ret∨e=.normal) (hr:fn.results.toList=[r1,r2]) (h1:bY P st r1=some x1) (h2:bY P st r2=some x2)
 (hn:(lV (.eE [x1,x2])).Nodup) (hy:Cp st (.eE [x1,x2])=some y):Al P f fn (e,st)=some y:=by
 have h:jQ P f fn st=some y:=by
  unfold jQ;rw[hk,if_pos rfl];unfold Mu;rw[hr];simp only[List.map_cons,List.map_nil,rH,h1,h2,cS,cM,Option.map_some,if_pos hn,hy]
 rcases he with rfl|rfl<;>exact h
theorem DU {st:St} {s g e sz n:Nat} {cs:List AV} (h:st.heap s g=some (.row e sz n cs)) (hf:∀c∈cs,Flat c):sB st (.agg [.own s g])=some (.agg [.uniq e sz n cs]):=by
 simp only[sB,List.map_cons,List.map_nil,kK,if_neg (mW s g),h,if_pos hf,cM,Option.map_some]
theorem A0 (st:St):sB st (.agg [.v (.slice none 0 0)])=some (.agg [.v (.slice none 0 0)]):=by
 simp only[sB,List.map_cons,List.map_nil,kK,if_pos (Flat.v _),cM,Option.map_some]
theorem YU (st:St) (x:Value):sB st (.v x)=some (.v x):=by simp only[sB,kK,if_pos (Flat.v x)]
theorem DV {st:St} {a b x y:AV} (h1:sB st a=some x) (h2:sB st b=some y):Cp st (.eE [a,b])=some (.eE [x,y]):=by
 simp only[Cp,List.map_cons,List.map_nil,h1,h2,cM,Option.map_some]
theorem A1 {st:St} {cs:List AV} {x:AV} (h1:sB st (.agg cs)=some x):Cp st (.agg cs)=some x:=h1
theorem Kf (e sz n:Nat) (cs:List AV):¬Flat (.uniq e sz n cs):=by intro h;cases h
theorem A2 {e sz n:Nat} {cs:List AV} {st:St} {d:Nat}:jC (.agg [.uniq e sz n cs]) st (some d)=some { dst:=some d,val:=.agg [.own d (st.aQ d)],new:=some (d,[.row e sz n cs])}:=by
 have hn:¬Flat (.agg [.uniq e sz n cs]):=by intro h;cases h with|agg _ h=>exact Kf e sz n cs (h _ (by simp))
 unfold jC;rw[if_neg hn];rfl
theorem A3 {e sz n:Nat} {cs:List AV} {x:Value} {st:St} {d:Nat}:jC (.eE [.agg [.uniq e sz n cs],.v x]) st (some d)=some { dst:=some d,val:=.eE [.agg [.own d (st.aQ d)],.v x],new:=some (d,[.row e sz n cs])}:=by
 have hn:¬Flat (.eE [.agg [.uniq e sz n cs],.v x]):=by
  intro h;cases h with
  | eE _ h =>
    have:=h (.agg [.uniq e sz n cs]) (by simp)
    cases this with
    | agg _ h=>exact Kf e sz n cs (h _ (by simp))
 unfold jC;rw[if_neg hn];rfl
theorem aCc {call:Nat→List AV→Option AV} {g:Nat} {args:List AV} {d e sz n:Nat} {cs:List AV} {st:St} (hf:∀x∈args,Flat x) (h:call g args=some (.agg [.uniq e sz n cs])):aN call g args st (some d)=some { dst:=some d,val:=.agg [.own d (st.aQ d)],new:=some (d,[.row e sz n cs])}:=by
 unfold aN;rw[if_pos hf,h];exact A2
theorem aKi {call:Nat→List AV→Option AV} {g:Nat} {xs:List AV} {d e sz n:Nat} {cs:List AV} {x:Value} {fl:Bool} {st:St} (h:call g xs=some (.eE [.agg [.uniq e sz n cs],.v x])) (hm:∀c∈cs,iC c):tX call g (some xs) fl st (some d)=some { dst:=some d,val:=.eE [.agg [.own d (st.aQ d)],.v x],new:=some (d,[.row e sz n cs])}:=by
 have YV:Vp (.eE [.agg [.uniq e sz n cs],.v x]):=by
  intro y hy;rcases List.mem_cons.1 hy with rfl|hy
  ·intro c hc;simp at hc
   subst hc;exact hm
  ·simp at hy
   subst hy;exact .v _
 unfold tX;simp only[cK,h,YV,or_true,if_true];exact A3
theorem aKj {call:Nat→List AV→Option AV} {g:Nat} {xs:List AV} {x y:Value} {fl:Bool} {st:St} {d:Option Nat} (h:call g xs=some (.eE [.agg [.v y],.v x])):tX call g (some xs) fl st d=some { dst:=d,val:=.eE [.agg [.v y],.v x]}:=by
 have hf:∀z∈[AV.agg [.v y],.v x],Flat z:=bE (.agg _ (cU (.v _))) (.v _)
 refine A4 h ?_ (.eE _ hf)
 intro z hz;rcases List.mem_cons.1 hz with rfl|hz
 ·intro c hc;simp at hc;subst hc;exact .v _
 ·simp at hz;subst hz;exact .v _
theorem YW {z:Nat} {α:Type} (f:α→List AV) (hf:∀x,(f x).length=z):∀(l:List α) (i o:Nat) (hi:i<l.length),o<z→(l.flatMap f)[i * z+o]? = (f l[i])[o]?
 | [],i,o,hi,_=>by simp at hi
 | a :: l,0,o,_,ho=>by
   simp only[List.flatMap_cons,Nat.zero_mul,Nat.zero_add,List.getElem_cons_zero];rw[List.getElem?_append_left (by rw[hf];exact ho)]
 | a :: l,i+1,o,hi,ho=>by
   have ih:=YW f hf l i o (by simpa using hi) ho
   simp only[List.flatMap_cons,List.getElem_cons_succ];rw[List.getElem?_append_right (by rw[hf,Nat.succ_mul];omega),hf,show (i+1) * z+o-z=i * z+o by rw[Nat.succ_mul];omega]
   exact ih
theorem YX {z:Nat} {α:Type} (f:α→List AV) (hf:∀x,(f x).length=z) (o e:Nat) (xs:List AV) (hoe:o≤e) (he:e≤z):∀(l:List α) (i:Nat) (hi:i<l.length) (y:α),dQ (f l[i]) o xs e=f y→dQ (l.flatMap f) (i * z+o) xs (i * z+e)=(l.set i y).flatMap f
 | [],i,hi,_,_=>by simp at hi
 | a :: l,0,_,y,h=>by
   simp only[List.flatMap_cons,Nat.zero_mul,Nat.zero_add,List.set_cons_zero,List.getElem_cons_zero] at h ⊢;rw[← h];unfold dQ;rw[List.take_append_of_le_length (by rw[hf];omega),List.drop_append_of_le_length (by rw[hf];omega)]
   simp
 | a :: l,i+1,hi,y,h=>by
   have ih:=YX f hf o e xs hoe he l i (by simpa using hi) y (by simpa using h)
   simp only[List.flatMap_cons,List.set_cons_succ];rw[← ih];unfold dQ;have h1:(i+1) * z+o=z+(i * z+o):=by rw[Nat.succ_mul];omega
   have h2:(i+1) * z+e=z+(i * z+e):=by rw[Nat.succ_mul];omega
   rw[h1,h2,List.take_append,List.drop_append,List.take_of_length_le (by rw[hf];omega),List.drop_of_length_le (by rw[hf];omega),hf,Nat.add_sub_cancel_left,Nat.add_sub_cancel_left]
   simp
theorem A5 {l:List Bool} {xs:List AV} (h:iS l xs xs):∀c∈xs,iC c:=by
 obtain⟨us,vs,rfl,_,_⟩:=Cr _ _ _ h
 intro c hc;obtain⟨x,_,rfl⟩:=List.mem_map.1 hc
 exact .v _
theorem Wk (l:List Node):∀c∈bZ l,iC c:=fun c hc=>by
 obtain⟨n,_,h⟩:=List.mem_flatMap.1 hc
 exact A5 (Wl n n) c h
theorem A6 {l:List Node} {i:Int} (h0:0≤i) (h1:i<l.length) (o:Nat) (ho:o<240):(bZ l)[i.toNat * 240+o]? = (fG (nd l i))[o]?:=by
 obtain⟨h,e⟩:=Lc h0 h1
 rw[e];exact YW fG vJ l i.toNat o h ho
theorem A7 {l:List Node} {i:Int} (h0:0≤i) (h1:i<l.length) {o e:Nat} {xs:List AV} (hoe:o≤e) (he:e≤240) {y:Node} (h:dQ (fG (nd l i)) o xs e=fG y):dQ (bZ l) (i.toNat * 240+o) xs (i.toNat * 240+e)=bZ (l.set i.toNat y):=by
 obtain⟨hi,e'⟩:=Lc h0 h1
 rw[e'] at h;exact YX fG vJ o e xs hoe he l i.toNat hi y h
def Wm (n:Node) (s:Int):Node:={ n with status:=s }
def setAt (ns:List Node) (i s:Int):List Node:=ns.set i.toNat (Wm (nd ns i) s)
theorem TN {l:List Node} {i s:Int} (h0:0≤i) (h1:i<l.length):dQ (bZ l) (i.toNat * 240+239) [.v (.int .i64 s)] (i.toNat * 240+240)=bZ (setAt l i s) :=
 A7 h0 h1 (by decide) (by decide) (Gw (nd l i) _)
theorem TO {l:List Node} {i:Int} (h0:0≤i) (h1:i<l.length):(bZ l)[i.toNat * 240+239]? = some (.v (.int .i64 (nd l i).status)):=by
 rw[A6 h0 h1 239 (by decide)]
 exact Fk (nd l i)
theorem Cu (ns:List Node) (i s:Int):(setAt ns i s).length=ns.length:=by simp[setAt]
def DW (to never:Int):List Int→List Node→Option (List Node)
 | [],ns=>some ns
 | i :: l,ns=>if (nd ns i).status=never then none else DW to never l (setAt ns i to)
theorem GG {to never:Int}:∀(l:List Int) (ns r:List Node),DW to never l ns=some r→r.length=ns.length
 | [],ns,r,h=>by simp only[DW,Option.some.injEq] at h;rw[h]
 | i :: l,ns,r,h=>by
   simp only[DW] at h;split at h
   ·cases h
   ·rw[GG l _ r h,Cu]
theorem TP {l:List Node} (h:0<l.length):bZ l≠[]:=by
 intro he;have:=congrArg List.length he
 rw[Ld] at this;simp only[List.length_nil] at this;omega
theorem aPB (l:List Node) (h0:0<l.length) (hn:(l.length:Int)<1000000):aB Tryz.prog 192 [.sl l.length (bZ l)]=some (.uniq 76 240 l.length (bZ l)):=by
 rw[cL Tryz.func192 rfl aKk rfl];have gR:=TP h0
 have ha:=fun s g=>Ni (e:=76) (sz:=240) (by_:=352) (s:=s) (g:=g) (n:=l.length) (cs:=bZ l) (by simp) (by omega) (by unfold maxLen;omega)
 simp only[ZZ,seval,gR,ha];exact tO rfl (by simp only[EV,seval];rfl) (by simp only[EV,seval]) (iD _)
theorem aPC (l:List Node) (h0:0<l.length) (hn:(l.length:Int)<1000000) (st:St) (d:Nat):aN (aB Tryz.prog) 192 [.sl l.length (bZ l)] st (some d)=some { dst:=some d,val:=.own d (st.aQ d),new:=some (d,[.row 76 240 l.length (bZ l)])}:=jF (cU (.sl _ _ (iD l))) (aPB l h0 hn)
theorem aPD (ns:List Node) (h0:0<ns.length) (hn:(ns.length:Int)<1000000):aB Tryz.prog 165 [.agg (cO ⟨ns⟩)]=some (.agg [.uniq 76 240 ns.length (bZ ns)]):=by
 rw[cL Tryz.func165 rfl aKl rfl];have hK:=aPC ns h0 hn
 simp only[ZZ,seval,hK];refine Wj rfl (.inl rfl) rfl (x:=.agg [.own 5 0]) (by simp only[bY,ZZ,seval]) (by simp[lV,jE,hU]) (A1 (DU (by simp only[EV,seval]) (iD _)))
theorem aPE (ns:List Node) (h0:0<ns.length) (hn:(ns.length:Int)<1000000) (st:St) (d:Nat):aN (aB Tryz.prog) 165 [.agg (cO ⟨ns⟩)] st (some d)=some { dst:=some d,val:=.agg [.own d (st.aQ d)],new:=some (d,[.row 76 240 ns.length (bZ ns)])}:=aCc (cU (mC _)) (aPD ns h0 hn)
theorem aCd {l:List Int} {k:Nat} (h:k<l.length):l.drop k=it l k :: l.drop (k+1):=by
 rw[List.drop_eq_getElem_cons h];simp[it,h]
theorem aKm (s g:Nat) (x:Value):(lV (.eE [.agg [.own s g],.v x])).Nodup:=by simp[lV,jE,hU]
theorem aKn (y x:Value):(lV (.eE [.agg [.v y],.v x])).Nodup:=by simp[lV,jE,hU]
def BF (e:Int):AV:=.eE [.agg [.v (.slice none 0 0)],.v (.int .i64 e)]
def chS (o:Option (List Node)):AV :=
 match o with
 | none=>.eE [.agg [.v (.slice none 0 0)],.v (.bool false)]
 | some r=>.eE [.agg [.uniq 76 240 r.length (bZ r)],.v (.bool true)]
theorem aKo (ns:List Node) (h0:0<ns.length) (hn:(ns.length:Int)<1000000) (l:List Int) (hl:(l.length:Int)<1000000) (hm:∀x∈l,0≤x∧x<ns.length) (to never:Int) :
 aB Tryz.prog 247 [.agg (cO ⟨ns⟩),.sl l.length (aK l),.v (.int .i64 to),.v (.int .i64 never)]=some (chS (DW to never l ns)):=by
 rw[cL Tryz.func247 rfl aKp rfl];simp only[ZZ,seval,hn];refine kI (fun n st=>∃(k:Nat) (cur:List Node),(st.env 1=.sl l.length (aK l)∧st.env 2=.v (.int .i64 to)∧st.env 3=.v (.int .i64 never)∧st.env 8=.ptr 8 0 0∧st.heap 8 0=some (.cells [.v (.slice none 0 0)])∧st.env 10=.ptr 10 0 0∧st.heap 10 0=some (.cells [.own 14 0])∧st.heap 14 0=some (.row 76 240 cur.length (bZ cur))∧st.env 11=.v (.int .i64 k))∧cur.length=ns.length∧DW to never l ns=DW to never (l.drop k) cur∧k≤l.length∧n=l.length-k)
  (fun e st=>(e=.ret∧DW to never l ns=none∧st.env 8=.ptr 8 0 0∧st.heap 8 0=some (.cells [.v (.slice none 0 0)])∧st.env 9=.v (.bool false))∨(e=.exit 0∧∃r,DW to never l ns=some r∧st.env 8=.ptr 8 0 0∧st.heap 8 0=some (.cells [.v (.slice none 0 0)])∧st.env 10=.ptr 10 0 0∧st.heap 10 0=some (.cells [.own 14 0])∧st.heap 14 0=some (.row 76 240 r.length (bZ r)))) l.length ?step ?start ?rest
 case step =>
  rintro n st ⟨k,cur,hI,zD,hc,hk,Gj⟩
  by_cases bA:(k:Int)<l.length
  ·have q0:(0:Int)≤k:=by omega
   have hw:IntKind.i64.wrap ((k:Int)+1)=((k+1:Nat):Int):=by rw[Fx _ (by omega) (by omega)];omega
   obtain⟨x0,x1⟩:=hm _ (Ef q0 bA)
   have x2:it l k<cur.length:=by omega
   rw[aCd (by omega)] at hc
   simp only[DW] at hc;have hg:=TO x0 x2
   by_cases hs:(nd cur (it l k)).status=never
   ·rw[if_pos hs] at hc;have hb:((nd cur (it l k)).status == never)=true:=by simp[hs]
    apply oT (.ret)
    ·simp only[ZZ,seval,hI,bA,q0,x0,x2,hg,hb];rfl
    ·exact .inl ⟨rfl,hc,by simp only[EV,seval,hI],by simp only[EV,seval,hI],by simp only[EV,seval,hI]⟩
   ·rw[if_neg hs] at hc;have hb:((nd cur (it l k)).status == never)=false:=by simp[hs]
    have hu:=TN (s:=to) x0 x2
    have hle:(it l k).toNat * 240+239+1≤cur.length * 240:=by
     have:((it l k).toNat+1) * 240≤cur.length * 240:=Nat.mul_le_mul_right _ (by omega)
     omega
    have hle2:(it l k).toNat * 240+240≤cur.length * 240:=by omega
    apply oN (l.length-(k+1))
    ·simp only[ZZ,seval,hI,bA,q0,x0,x2,hg,hb,hu,hle,hle2,hw];rfl
    ·exact⟨k+1,setAt cur (it l k) to,by simp only[EV,seval,hI,Cu],by rw[Cu];exact zD,hc,by omega,rfl⟩
  ·obtain rfl:k=l.length:=by omega
   rw[List.drop_length] at hc;apply oT (.exit 0)
   ·simp only[ZZ,seval,hI,bA];rfl
   ·exact .inr ⟨rfl,cur,hc,by simp only[EV,seval,hI]⟩
 case start=>exact⟨0,ns,by simp only[EV,seval]<;>rfl,rfl,rfl,by omega,by omega⟩
 case rest =>
  rintro e st (⟨rfl,hc,hI⟩|⟨rfl,r,hc,hI⟩)
  ·rw[hc];simp only[ZZ,seval];exact LM rfl (.inl rfl) rfl (x1:=.agg [.v (.slice none 0 0)]) (x2:=.v (.bool false)) (by simp only[bY,ZZ,seval,hI]) (by simp only[bY,ZZ,seval,hI]) (aKn _ _) (DV (A0 _) (YU _ _))
  ·rw[hc];simp only[ZZ,seval,hI];exact LM rfl (.inl rfl) rfl (x1:=.agg [.own 14 0]) (x2:=.v (.bool true)) (by simp only[bY,ZZ,seval,hI]) (by simp only[bY,ZZ,seval,hI]) (aKm _ _ _) (DV (DU (by simp only[EV,seval,hI]) (iD _)) (YU _ _))
theorem GH {ns:List Node} (hu:gM ns) {c:Int} (c0:0≤c) (c1:c<ns.length):0<(path ns c).length:=List.length_pos_iff.2 fun h=>by
 have:=vG hu c0 c1
 rw[h] at this;cases this
theorem A8 {ns:List Node} (hu:gM ns) {c:Int} (c0:0≤c) (c1:c<ns.length):it (path ns c) ((path ns c).length-1:Int)=c:=by
 by_cases h:c=0
 ·subst h;rw[rG (by omega)]
  rfl
 ·rw[pW hu (by omega) c1]
  exact vI (by simp)
theorem c64 (ns:List Node) (hu:gM ns) (hn:(ns.length:Int)<1000000) (i:Int):aB Tryz.prog 64 [.agg (cO ⟨ns⟩),.v (.int .i64 i)]=some (if Fz ns i ns.length=[] then .v (.slice none 0 0) else .uniq 3 1 (Fz ns i ns.length).length (aK (Fz ns i ns.length))):=by
 rw[cL Tryz.func64 rfl aPF rfl];have h41:=Nb ns hu hn
 simp only[ZZ,seval];refine kI (fun n st=>∃k:Nat,st.env 1=.v (.int .i64 i)∧st.env 2=.ptr 2 0 0∧st.heap 2 0=some (.cells (cO ⟨ns⟩))∧st.env 6=.v (.int .i64 k) ∧
  ((Fz ns i k=[]∧st.env 5=.v (.slice none 0 0))∨(Fz ns i k≠[]∧∃g,st.env 5=.own 21 g∧g<st.aQ 21∧st.heap 21 g=some (.row 3 1 (Fz ns i k).length (aK (Fz ns i k)))))∧k≤ns.length∧n=ns.length-k)
  (fun e st=>e=.exit 0∧((Fz ns i ns.length=[]∧st.env 5=.v (.slice none 0 0))∨(Fz ns i ns.length≠[]∧∃g,st.env 5=.own 21 g∧g<st.aQ 21∧st.heap 21 g=some (.row 3 1 (Fz ns i ns.length).length (aK (Fz ns i ns.length)))))) ns.length ?step ?start ?rest
 case step =>
  rintro n st ⟨k,h1,h2,uT,h6,h5,hk,Gj⟩
  have hdl:=Uz ns i k
  have hdl':((Fz ns i k).length:Int)<1000000:=by omega
  by_cases bA:(k:Int)<ns.length
  ·have hw:IntKind.i64.wrap ((k:Int)+1)=((k+1:Nat):Int):=by rw[Fx _ (by omega) (by omega)];omega
   cases ha:tP ns i k
   ·have hs:Fz ns i (k+1)=Fz ns i k:=by simp only[Fz,ha,Bool.false_eq_true,if_false]
    rcases h5 with ⟨hy,h5⟩|⟨hy,g,h5,hg,Ak⟩
    ·apply oN (ns.length-(k+1))
     ·simp only[ZZ,seval,h1,h2,uT,h6,h5,bA,hw,h41,ha];rfl
     ·exact⟨k+1,by simp only[EV,seval,h1],by simp only[EV,seval,h2],by simp only[EV,seval,uT],(by simp only[EV,seval]),.inl ⟨by rw[hs];exact hy,by simp only[EV,seval,h5]⟩,by omega,rfl⟩
    ·apply oN (ns.length-(k+1))
     ·simp only[ZZ,seval,h1,h2,uT,h6,h5,Ak,bA,hw,h41,ha];rfl
     ·exact⟨k+1,by simp only[EV,seval,h1],by simp only[EV,seval,h2],by simp only[EV,seval,uT],(by simp only[EV,seval]),.inr ⟨by rw[hs];exact hy,g,by simp only[EV,seval,h5],(by simp only[EV,seval]<;>omega),(by rw[hs];simp only[EV,seval,Ak])⟩,by omega,rfl⟩
   ·have hs:Fz ns i (k+1)=Fz ns i k++[(k:Int)]:=by simp only[Fz,ha,if_true]
    rcases h5 with ⟨hy,h5⟩|⟨hy,g,h5,hg,Ak⟩
    ·rw[hy] at hs;apply oN (ns.length-(k+1))
     ·simp only[ZZ,seval,h1,h2,uT,h6,h5,bA,hw,h41,ha];rfl
     ·exact⟨k+1,by simp only[EV,seval,h1],by simp only[EV,seval,h2],by simp only[EV,seval,uT],(by simp only[EV,seval]),.inr ⟨by rw[hs];simp,_,by simp only[EV,seval]<;>rfl,(by simp only[EV,seval]<;>omega),(by rw[hs];simp only[EV,seval]<;>rfl)⟩,by omega,rfl⟩
    ·apply oN (ns.length-(k+1))
     ·simp only[ZZ,seval,h1,h2,uT,h6,h5,Ak,hdl',bA,hw,h41,ha];rfl
     ·exact⟨k+1,by simp only[EV,seval,h1],by simp only[EV,seval,h2],by simp only[EV,seval,uT],(by simp only[EV,seval]),.inr ⟨by rw[hs];simp,_,by simp only[EV,seval]<;>rfl,(by simp only[EV,seval]<;>omega),(by rw[hs];simp only[EV,seval]<;>rfl)⟩,by omega,rfl⟩
  ·obtain rfl:k=ns.length:=by omega
   apply oT (.exit 0)
   ·simp only[ZZ,seval,h2,uT,h6,bA];rfl
   ·exact⟨rfl,by simpa only[EV,seval] using h5⟩
 case start=>exact⟨0,(by simp only[EV,seval]),(by simp only[EV,seval]),(by simp only[EV,seval]),(by simp only[EV,seval]),.inl ⟨rfl,(by simp only[EV,seval])⟩,by omega,rfl⟩
 case rest =>
  rintro e st ⟨rfl,⟨hy,h5⟩|⟨hy,g,h5,hg,Ak⟩⟩
  ·rw[if_pos hy];simp only[ZZ,seval,h5];exact bX rfl (by simp only[EV,seval]) (.v _)
  ·rw[if_neg hy];simp only[ZZ,seval,h5,Ak];exact tO rfl (by simp only[EV,seval];rfl) (by simp only[EV,seval,Ak]) (gF _)
theorem k64 (ns:List Node) (hu:gM ns) (hn:(ns.length:Int)<1000000) (i:Int) (h:Fz ns i ns.length≠[]) (st:St) (d:Nat):aN (aB Tryz.prog) 64 [.agg (cO ⟨ns⟩),.v (.int .i64 i)] st (some d)=some { dst:=some d,val:=.own d (st.aQ d),new:=some (d,[.row 3 1 (Fz ns i ns.length).length (aK (Fz ns i ns.length))])}:=by
 have hc:=c64 ns hu hn i
 rw[if_neg h] at hc;exact jF (bE (mC _) (.v _)) hc
end Go.Ab.Tryz
namespace Go.Ab.Tryz
open Classical Go.Proofs Go.Ab
end Go.Ab.Tryz
