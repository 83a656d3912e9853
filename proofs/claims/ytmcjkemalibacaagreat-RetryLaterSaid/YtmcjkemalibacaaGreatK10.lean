/-
  Part 10 of the proof: an evaluator of programs, its soundness, and what functions of this program compute.
-/
import Derived.Test.YtmcjkemalibacaaGreatK9
import Derived.Test.YtmcjkemalibacaaGreatK7
set_option linter.all false
set_option maxRecDepth 20000
set_option maxHeartbeats 40000000
namespace Go.Ab.Tryz
open Classical Go.Proofs Go.Ab
theorem q49 (args:List AV) (st:St) (d:Option Nat):aN (aC Tryz.prog) 49 args st d=xF (aC Tryz.prog) 49 (bK (args.map (eW st))) (decide (∀x∈args,Flat x)) st d:=kJ _ _ _ _ _
theorem c49 (l:List Int) (a:Int) (hn:(l.length:Int)<1000000):aC Tryz.prog 49 [.sl l.length (aI l),.v (.int .i64 a)]=some (.v (.bool (decide (a∈l)))):=by
 rw[cL Tryz.func49 rfl aLZ rfl];simp only[ZZ,seval];refine lP (fun n st=>∃i:Int,st.env 0=.sl l.length (aI l)/\st.env 1=.v (.int .i64 a)/\st.env 5=.v (.int .i64 i)/\0<=i/\i<=l.length/\n=(l.length-i).toNat/\∀j,0<=j->j<i->it l j≠a)
  (fun e st=>(e=.ret/\st.env 4=.v (.bool (decide (a∈l))))\/(e=.exit 0/\decide (a∈l)=false)) l.length ?step ?start ?rest
 case step =>
  rintro n st ⟨i,h0,h1,h5,i0,i1,Kk,hb⟩
  by_cases aZ:i<l.length
  ·have hw:IntKind.i64.wrap (i+1)=i+1:=Im _ (by omega) (by omega)
   obtain⟨hi,he⟩:=xW i0 aZ
   by_cases hr:it l i=a
   ·have hm:decide (a∈l)=true:=by rw[decide_eq_true_eq,<- hr,he];exact List.getElem_mem hi
    have hbq:(it l i == a)=true:=by simp[hr]
    apply oT (.ret)
    ·simp only[ZZ,seval,h0,h1,h5,aZ,i0,hbq];rfl
    ·exact .inl ⟨rfl,by simp only[EV,seval,hm]⟩
   ·have hbq:(it l i == a)=false:=by simp[hr]
    apply oN ((l.length-(i+1)).toNat)
    ·simp only[ZZ,seval,h0,h1,h5,aZ,i0,hbq,hw];rfl
    ·exact⟨i+1,by simp only[EV,seval,h0],by simp only[EV,seval,h1],(by simp only[EV,seval]),by omega,by omega,rfl,fun j j0 j1=>by
     rcases Int.lt_or_eq_of_le (show j<=i by omega) with h|rfl
     ·exact hb j j0 h
     ·exact hr⟩
  ·apply oT (.exit 0)
   ·simp only[ZZ,seval,h0,h1,h5,aZ,i0];rfl
   ·exact .inr ⟨rfl,by
    rw[decide_eq_false_iff_not];intro hm;obtain⟨j,hj,rfl⟩:=List.getElem_of_mem hm
    exact hb j (by omega) (by omega) (by simp[it,hj])⟩
 case start=>exact⟨0,(by simp only[EV,seval]),(by simp only[EV,seval]),(by simp only[EV,seval]),by omega,by omega,by omega,fun j _ _=>by omega⟩
 case rest =>
  rintro e st (⟨rfl,h⟩|⟨rfl,h⟩)
  ·simp only[ZZ,seval];exact bT rfl h (.v _)
  ·simp only[ZZ,seval];exact bT rfl (by simp only[EV,seval,h]) (.v _)
theorem aL0 (a:Int):aC Tryz.prog 49 [.v (.slice none 0 0),.v (.int .i64 a)]=some (.v (.bool false)):=by
 rw[cL Tryz.func49 rfl aLZ rfl];simp only[ZZ,seval,Io,Int.natCast_zero,Int.lt_irrefl,decide_false];exact bT rfl (by simp only[EV,seval]) (.v _)
theorem k49 (l:List Int) (a:Int) (hn:(l.length:Int)<1000000) (fl:Bool) (st:St) (d:Option Nat):xF (aC Tryz.prog) 49 (some [.sl l.length (aI l),.v (.int .i64 a)]) fl st d=some { dst:=d,val:=.v (.bool (decide (a∈l)))}:=Zh (c49 l a hn)
theorem aRw (a:Int) (fl:Bool) (st:St) (d:Option Nat):xF (aC Tryz.prog) 49 (some [.v (.slice none 0 0),.v (.int .i64 a)]) fl st d=some { dst:=d,val:=.v (.bool false)}:=Zh (aL0 a)
def iB (ns:List Node):Prop:=∀i:Int,0<i->i<ns.length->0<=(nd ns i).up/\(nd ns i).up<i
def Zi (ns:List Node):Nat->Int->List Int
 | 0,_=>[]
 | f+1,i=>if i=0 then [0] else Zi ns f (nd ns i).up++[i]
def path (ns:List Node) (i:Int):List Int:=if 0<=i/\i<ns.length then Zi ns (i.toNat+1) i else []
theorem Zj {ns:List Node} (h:iB ns):∀(f g:Nat) (i:Int),0<=i->i<ns.length->i.toNat<f->i.toNat<g->Zi ns f i=Zi ns g i
 | 0,_,i,_,_,h1,_=>by omega
 | f+1,0,i,_,_,_,h2=>by omega
 | f+1,g+1,i,i0,i1,h1,h2=>by
   simp only[Zi];by_cases hi:i=0
   ·rw[if_pos hi,if_pos hi]
   ·obtain⟨u0,u1⟩:=h i (by omega) i1
    rw[if_neg hi,if_neg hi,Zj h f g (nd ns i).up u0 (by omega) (by omega) (by omega)]
theorem rV {ns:List Node} (h:0<ns.length):path ns 0=[0]:=by
 unfold path;rw[if_pos ⟨by omega,by omega⟩]
 rfl
theorem rW {ns:List Node} (h:iB ns) {i:Int} (i0:0<i) (i1:i<ns.length):path ns i=path ns (nd ns i).up++[i]:=by
 obtain⟨u0,u1⟩:=h i i0 i1
 unfold path;rw[if_pos ⟨by omega,i1⟩,if_pos ⟨u0,by omega⟩]
 show Zi ns (i.toNat+1) i=_
 rw[Zi,if_neg (by omega)]
 rw[Zj h i.toNat ((nd ns i).up.toNat+1) (nd ns i).up u0 (by omega) (by omega) (by omega)]
theorem zF {ns:List Node} {i:Int} (h:¬(0<=i/\i<ns.length)):path ns i=[]:=if_neg h
theorem Y1 {ns:List Node} (h:iB ns):∀(k:Nat) (i:Int),i.toNat=k->0<=i->i<ns.length->(path ns i).length<=i+1:=by
 intro k;induction k using Nat.strongRecOn with
 | _ k ih =>
   intro i hk i0 i1;by_cases hi:i=0
   ·subst hi;rw[rV (by omega)];simp
   ·obtain⟨u0,u1⟩:=h i (by omega) i1
    rw[rW h (by omega) i1]
    have:=ih (nd ns i).up.toNat (by omega) _ rfl u0 (by omega)
    simp only[List.length_append,List.length_singleton];omega
theorem Bv {ns:List Node} (h:iB ns) (i:Int):((path ns i).length:Int)<=ns.length:=by
 by_cases hi:0<=i/\i<ns.length
 ·have:=Y1 h _ i rfl hi.1 hi.2;omega
 ·rw[zF hi];simp
theorem aRx (ns:List Node) (i:Int) (h:¬(0<=i/\i<ns.length)):aC Tryz.prog 76 [.agg (cU ⟨ns⟩),.v (.int .i64 i)]=some (.v (.slice none 0 0)):=by
 rw[cL Tryz.func76 rfl aL1 rfl];have hd:(decide (0<=i) && decide (i<ns.length))=false:=by
  rw[<- Bool.not_eq_true];simpa using h
 simp only[ZZ,seval,WC,hd];exact bT rfl (by simp only[EV,seval]) (.v _)
theorem c76 (ns:List Node) (hu:iB ns) (hn:(ns.length:Int)<1000000):∀(k:Nat) (i:Int),i.toNat=k->0<=i->i<ns.length->aC Tryz.prog 76 [.agg (cU ⟨ns⟩),.v (.int .i64 i)]=some (.uniq 3 1 (path ns i).length (aI (path ns i))):=by
 intro k;induction k using Nat.strongRecOn with
 | _ k ih =>
   intro i hk i0 i1;have hd:(decide (0<=i) && decide (i<ns.length))=true:=by simp[i0,i1]
   rw[cL Tryz.func76 rfl aL1 rfl];by_cases hi:i=0
   ·subst hi;simp only[ZZ,seval,WC,hd,i1,beq_self_eq_true];exact tH rfl (by simp only[EV,seval];rfl) (by simp only[EV,seval,rV (show 0<ns.length by omega)];rfl) (fS _)
   ·obtain⟨u0,u1⟩:=hu i (by omega) i1
    have hq:(i == 0)=false:=by simp[hi]
    have hr:=ih (nd ns i).up.toNat (by omega) _ rfl u0 (by omega)
    have hc:∀(st:St) (d:Nat),aN (aC Tryz.prog) 76 [.agg (cU ⟨ns⟩),.v (.int .i64 (nd ns i).up)] st (some d)=some { dst:=some d,val:=.own d (st.aK d),new:=some (d,[.row 3 1 (path ns (nd ns i).up).length (aI (path ns (nd ns i).up))])}:=fun st d=>jD (bH (nC _) (.v _)) hr
    have hl:((path ns (nd ns i).up).length:Int)<1000000:=by have:=Bv hu (nd ns i).up;omega
    simp only[ZZ,seval,WC,hd,hq,i0,i1,hc,hl];exact tH rfl (by simp only[EV,seval];rfl) (by simp only[EV,seval,rW hu (show 0<i by omega) i1]) (fS _)
theorem k76 (ns:List Node) (hu:iB ns) (hn:(ns.length:Int)<1000000) (i:Int) (i0:0<=i) (i1:i<ns.length) (st:St) (d:Nat):aN (aC Tryz.prog) 76 [.agg (cU ⟨ns⟩),.v (.int .i64 i)] st (some d)=some { dst:=some d,val:=.own d (st.aK d),new:=some (d,[.row 3 1 (path ns i).length (aI (path ns i))])}:=jD (bH (nC _) (.v _)) (c76 ns hu hn _ i rfl i0 i1)
theorem I4 (ns:List Node) (i:Int) (h:¬(0<=i/\i<ns.length)) (st:St) (d:Option Nat):aN (aC Tryz.prog) 76 [.agg (cU ⟨ns⟩),.v (.int .i64 i)] st d=some { dst:=d,val:=.v (.slice none 0 0)}:=bL (bH (nC _) (.v _)) (aRx ns i h) (.v _)
def Bw (ns:List Node) (a b:Int):Bool:=decide (a∈path ns b)
theorem c47 (ns:List Node) (hu:iB ns) (hn:(ns.length:Int)<1000000) (a b:Int):aC Tryz.prog 47 [.agg (cU ⟨ns⟩),.v (.int .i64 a),.v (.int .i64 b)]=some (.v (.bool (Bw ns a b))):=by
 rw[cL Tryz.func47 rfl aRy rfl];by_cases hb:0<=b/\b<ns.length
 ·have hl:((path ns b).length:Int)<1000000:=by have:=Bv hu b;omega
  simp only[ZZ,seval,k76 ns hu hn b hb.1 hb.2,q49,k49,hl];exact bT rfl (by simp only[EV,seval,Bw]) (.v _)
 ·simp only[ZZ,seval,I4 ns b hb,q49,aRw];exact bT rfl (by simp only[EV,seval,Bw,zF hb,List.not_mem_nil,decide_false]) (.v _)
theorem Px (ns:List Node) (hu:iB ns) (hn:(ns.length:Int)<1000000) (a b:Int) (st:St) (d:Option Nat):aN (aC Tryz.prog) 47 [.agg (cU ⟨ns⟩),.v (.int .i64 a),.v (.int .i64 b)] st d=some { dst:=d,val:=.v (.bool (Bw ns a b))}:=bL (oW (nC _) (.v _) (.v _)) (c47 ns hu hn a b) (.v _)
theorem aDP:Flat (.agg [.v (.slice none 0 0)]):=.agg _ (by simp;exact .v _)
theorem Dn (x m:Int) (hm:0<=m/\m<9223372036854775808):0<=IntKind.i64.wrap ↑(BitVec.ofInt IntKind.i64.bits x &&& BitVec.ofInt IntKind.i64.bits m).toNat/\IntKind.i64.wrap ↑(BitVec.ofInt IntKind.i64.bits x &&& BitVec.ofInt IntKind.i64.bits m).toNat<=m:=by
 have h0:(BitVec.ofInt IntKind.i64.bits x &&& BitVec.ofInt IntKind.i64.bits m).toNat<=(BitVec.ofInt IntKind.i64.bits m).toNat:=by rw[BitVec.toNat_and];exact Nat.and_le_right
 have hb:IntKind.i64.bits=64:=rfl
 have h:(BitVec.ofInt IntKind.i64.bits (m:Int)).toNat=m.toNat:=by
  rw[BitVec.toNat_ofInt,hb];omega
 rw[h] at h0;rw[Im _ (by omega) (by omega)]
 omega
theorem WU {i n:Int} (h:0<=i) (hn:0<n):0<=i.tdiv n/\i.tdiv n<=i:=by
 rw[Int.tdiv_eq_ediv_of_nonneg h];exact⟨Int.ediv_nonneg h (by omega),Int.ediv_le_self n h⟩
theorem eB {i n:Int} (h:0<=i) (hn:0<n):0<=i.tmod n/\i.tmod n<n:=by
 rw[Int.tmod_eq_emod_of_nonneg h];exact⟨Int.emod_nonneg i (by omega),Int.emod_lt_of_pos i hn⟩
theorem yS {i:Int} (h:0<=i) (s:Nat):0<=i.fdiv (2 ^ s):=by
 have h2:(0:Int)<=2 ^ s:=Int.pow_nonneg (by decide)
 rw[Int.fdiv_eq_ediv_of_nonneg _ h2];exact Int.ediv_nonneg h h2
theorem aL2 (l:List Int) (hl:(l.length:Int)<=9223372036854775807) (i:Int) (i0:0<=i) (i1:i<1000000):∃k:Int,aC Tryz.prog 145 [.sl l.length (aI l),.v (.int .i64 i)]=some (.v (.int .i64 k))/\0<=k/\k<=17777215:=by
 rw[cL Tryz.func145 rfl aL3 rfl];by_cases h:(l.length:Int)=0
 ·have hq:((l.length:Int) == 0)=true:=by simp[h]
  simp only[ZZ,seval,hq];obtain⟨b1,b2⟩:=Dn i 65535 (by decide)
  exact⟨_,bT rfl (by simp only[EV,seval]<;>rfl) (.v _),b1,by omega⟩
 ·have hq:((l.length:Int) == 0)=false:=by rw[beq_eq_false_iff_ne];exact h
  obtain⟨m1,m2⟩:=eB (n:=(l.length:Int)) i0 (by omega)
  obtain⟨d1,d2⟩:=WU (n:=(l.length:Int)) i0 (by omega)
  simp only[ZZ,seval,hq,h,m1,m2];obtain⟨b1,b2⟩:=Dn (it l (i.tmod ↑l.length)) 16777215 (by decide)
  refine⟨_,bT rfl (by simp only[EV,seval]<;>rfl) (.v _), ?_, ?_⟩
  all_goals
   rw[Im (i.tdiv ↑l.length) (by omega) (by omega),Im _ (by omega) (by omega)]
   omega
noncomputable def JR (l:List Int) (i:Int):Int:=if h:((l.length:Int)<=9223372036854775807/\0<=i/\i<1000000) then Classical.choose (aL2 l h.1 i h.2.1 h.2.2) else 0
theorem Py (l:List Int) (hl:(l.length:Int)<=9223372036854775807) (i:Int) (i0:0<=i) (i1:i<1000000):aC Tryz.prog 145 [.sl l.length (aI l),.v (.int .i64 i)]=some (.v (.int .i64 (JR l i)))/\0<=JR l i/\JR l i<=17777215:=by
 have h:((l.length:Int)<=9223372036854775807/\0<=i/\i<1000000):=⟨hl,i0,i1⟩
 unfold JR;rw[dif_pos h];exact Classical.choose_spec (aL2 l h.1 i h.2.1 h.2.2)
theorem Pz (l:List Int) (hl:(l.length:Int)<=9223372036854775807) (i:Int) (i0:0<=i) (i1:i<1000000) (st:St) (d:Option Nat):aN (aC Tryz.prog) 145 [.sl l.length (aI l),.v (.int .i64 i)] st d=some { dst:=d,val:=.v (.int .i64 (JR l i))}:=bL (bH (Tc l) (.v _)) (Py l hl i i0 i1).1 (.v _)
def mkRoot (n:Int):cJ:=((dK.set 0 (IntKind.u8.wrap n)).set 1 (IntKind.u8.wrap (n.fdiv (2 ^ min 8 IntKind.i64.bits)))).set 31 (IntKind.u8.wrap (IntKind.i64.wrap (n * 7)))
theorem c30 (n:Int):aC Tryz.prog 30 [.v (.int .i64 n)]=some (.agg (aX (mkRoot n))):=by
 rw[cL Tryz.func30 rfl aRz rfl];simp only[ZZ,seval,Zk,Nat.reduceLT];exact fK rfl (by simp only[EV,seval];rfl) (by simp only[ZZ,seval];rfl) (.agg _ (dH _))
theorem Vt (n:Int) (st:St) (d:Option Nat):aN (aC Tryz.prog) 30 [.v (.int .i64 n)] st d=some { dst:=d,val:=.agg (aX (mkRoot n))}:=bL (cT (.v _)) (c30 n) (qS _)
theorem aRA (b:Block) (s:Int):aC Tryz.prog 157 [.agg (aT b),.v (.int .i64 s)]=some (.agg (cU ⟨[⟨b,-1,s⟩]⟩)):=by
 rw[cL Tryz.func157 rfl aL4 rfl];simp only[ZZ,seval];exact dY rfl (by simp only[EV,seval];rfl) (by simp only[ZZ,seval];rfl) (by simp only[EV,seval,Option.map_some]<;>rfl)
theorem aRB (b:Block) (s:Int) (st:St) (d:Option Nat):aN (aC Tryz.prog) 157 [.agg (aT b),.v (.int .i64 s)] st d=some { dst:=d,val:=.agg (cU ⟨[⟨b,-1,s⟩]⟩)}:=bL (bH (vJ _) (.v _)) (aRA b s) (nC _)
theorem I5 (i:Int) (st:St) (d:Option Nat):aN (aC Tryz.prog) 186 [.v (.int .i64 i)] st d=some { dst:=d,val:=.v (.bool (WV i))}:=bL (cT (.v _)) (aRC i) (.v _)
theorem mS (ns:List Node) (r:cJ) (hn:(ns.length:Int)<1000000) (st:St) (d:Option Nat):aN (aC Tryz.prog) 46 [.agg (cU ⟨ns⟩),.agg (aX r)] st d=some { dst:=d,val:=.v (.int .i64 (aP ns r))}:=bL (bH (nC _) (qS _)) (c46 ns r hn) (.v _)
noncomputable def ET (ns:List Node) (b:Block) (s:Int):Int :=
 if WV s=false then 2 else if 0<=aP ns b.root then 9 else if aP ns b.parent<0 then 10 else if b.slot<=(nd ns (aP ns b.parent)).block.slot then 14 else if 4096<=(ns.length:Int) then 11 else 0
noncomputable def Ip (ns:List Node) (b:Block) (s:Int):AV :=
 if ET ns b s=0 then .dX [.agg (cU ⟨ns++[⟨b,aP ns b.parent,s⟩]⟩),.v (.int .i64 0)] else .dX [.agg [.v (.slice none 0 0)],.v (.int .i64 (ET ns b s))]
theorem fL (ns:List Node) (r:cJ):-1<=aP ns r/\aP ns r<ns.length:=by
 unfold aP;cases h:ns.findIdx? (fun n=>decide (n.block.root=r)) with
 | none=>simp only;omega
 | some k =>
   have:=(List.findIdx?_eq_some_iff_getElem.1 h).1
   simp only;omega
theorem aRD (ns:List Node) (hn:(ns.length:Int)<1000000) (b:Block) (s:Int):aC Tryz.prog 149 [.agg (cU ⟨ns⟩),.agg (aT b),.v (.int .i64 s)]=some (Ip ns b s):=by
 rw[cL Tryz.func149 rfl aL5 rfl];have hu:=fL ns b.parent
 cases hs:WV s
 ·simp only[ZZ,seval,I5,hs];rw[show Ip ns b s=.dX [.agg [.v (.slice none 0 0)],.v (.int .i64 2)] from by simp[Ip,ET,hs]]
  exact dJ rfl (by simp only[bX,ZZ,seval];rfl) (by simp only[bX,EV,seval]<;>rfl) (by simp only[EV,seval]<;>rfl) (by simp only[EV,seval]<;>rfl)
 by_cases h1:0<=aP ns b.root
 ·simp only[ZZ,seval,I5,hs,mS,hn,h1];rw[show Ip ns b s=.dX [.agg [.v (.slice none 0 0)],.v (.int .i64 9)] from by simp[Ip,ET,hs,h1]]
  exact dJ rfl (by simp only[bX,ZZ,seval];rfl) (by simp only[bX,EV,seval]<;>rfl) (by simp only[EV,seval]<;>rfl) (by simp only[EV,seval]<;>rfl)
 by_cases h2:aP ns b.parent<0
 ·simp only[ZZ,seval,I5,hs,mS,hn,h1,h2];rw[show Ip ns b s=.dX [.agg [.v (.slice none 0 0)],.v (.int .i64 10)] from by simp[Ip,ET,hs,h1,h2]]
  exact dJ rfl (by simp only[bX,ZZ,seval];rfl) (by simp only[bX,EV,seval]<;>rfl) (by simp only[EV,seval]<;>rfl) (by simp only[EV,seval]<;>rfl)
 have u0:0<=aP ns b.parent:=by omega
 have u1:aP ns b.parent<ns.length:=hu.2
 by_cases h3:b.slot<=(nd ns (aP ns b.parent)).block.slot
 ·simp only[ZZ,seval,I5,hs,mS,hn,h1,h2,u0,u1,h3];rw[show Ip ns b s=.dX [.agg [.v (.slice none 0 0)],.v (.int .i64 14)] from by simp[Ip,ET,hs,h1,h2,h3]]
  exact dJ rfl (by simp only[bX,ZZ,seval];rfl) (by simp only[bX,EV,seval]<;>rfl) (by simp only[EV,seval]<;>rfl) (by simp only[EV,seval]<;>rfl)
 by_cases h4:4096<=(ns.length:Int)
 ·simp only[ZZ,seval,I5,hs,mS,hn,h1,h2,u0,u1,h3,h4];rw[show Ip ns b s=.dX [.agg [.v (.slice none 0 0)],.v (.int .i64 11)] from by simp[Ip,ET,hs,h1,h2,h3,h4]]
  exact dJ rfl (by simp only[bX,ZZ,seval];rfl) (by simp only[bX,EV,seval]<;>rfl) (by simp only[EV,seval]<;>rfl) (by simp only[EV,seval]<;>rfl)
 ·simp only[ZZ,seval,I5,hs,mS,hn,h1,h2,u0,u1,h3,h4];rw[show Ip ns b s=.dX [.agg (cU ⟨ns++[⟨b,aP ns b.parent,s⟩]⟩),.v (.int .i64 0)] from by simp[Ip,ET,hs,h1,h2,h3,h4]]
  exact dJ rfl (by simp only[bX,ZZ,seval];rfl) (by simp only[bX,EV,seval]<;>rfl) (by simp only[EV,seval]<;>rfl) (by simp only[EV,seval]<;>rfl)
theorem I6 (ns:List Node) (b:Block) (s:Int):Flat (Ip ns b s):=by
 unfold Ip;split
 ·exact .dX _ (bH (nC _) (.v _))
 ·exact .dX _ (bH aDP (.v _))
theorem aRE (ns:List Node) (hn:(ns.length:Int)<1000000) (b:Block) (s:Int) (st:St) (d:Option Nat):aN (aC Tryz.prog) 149 [.agg (cU ⟨ns⟩),.agg (aT b),.v (.int .i64 s)] st d=some { dst:=d,val:=Ip ns b s }:=bL (oW (nC _) (vJ _) (.v _)) (aRD ns hn b s) (I6 ns b s)
theorem aRF (n:Int):aC Tryz.prog 188 [.v (.int .u64 n)]=some (.v (.bool (decide (1<=n) && decide (n<=64)))):=by
 rw[cL Tryz.func188 rfl aL6 rfl];by_cases h:1<=n
 all_goals
  simp only[Z8,seval,h,decide_true,decide_false,Bool.true_and,Bool.false_and];exact bT rfl (by simp only[E8,seval,h,decide_true,decide_false,Bool.true_and,Bool.false_and]<;>rfl) (.v _)
theorem aL7 (n:Int) (st:St) (d:Option Nat):aN (aC Tryz.prog) 188 [.v (.int .u64 n)] st d=some { dst:=d,val:=.v (.bool (decide (1<=n) && decide (n<=64)))}:=bL (cT (.v _)) (aRF n) (.v _)
noncomputable def I7 (a b:Int):Int × Int:=if b≠0/\IntKind.u64.wrap (Int.tdiv 18446744073709551615 b)<a then (0,4) else (IntKind.u64.wrap (a * b),0)
theorem aRG (a b:Int):aC Tryz.prog 189 [.v (.int .u64 a),.v (.int .u64 b)]=some (.dX [.v (.int .u64 (I7 a b).1),.v (.int .i64 (I7 a b).2)]):=by
 rw[cL Tryz.func189 rfl aL8 rfl];unfold I7;by_cases h:b=0
 ·rw[if_neg (fun k=>k.1 h)]
  have hb:(b != 0)=false:=by simp[h]
  simp only[Z8,seval,hb];exact dJ rfl rfl rfl (by simp only[E8,seval]<;>rfl) (by simp only[E8,seval]<;>rfl)
 ·have hb:(b != 0)=true:=by simp[h]
  have OZ:(b=0)=False:=eq_false h
  by_cases h2:IntKind.u64.wrap (Int.tdiv 18446744073709551615 b)<a
  ·rw[if_pos ⟨h,h2⟩];simp only[Z8,seval,hb,OZ,h2];exact dJ rfl rfl rfl (by simp only[E8,seval]<;>rfl) (by simp only[E8,seval]<;>rfl)
  ·rw[if_neg (fun k=>h2 k.2)]
   simp only[Z8,seval,hb,OZ,h2];exact dJ rfl rfl rfl (by simp only[E8,seval]<;>rfl) (by simp only[E8,seval]<;>rfl)
theorem aRH (a b:Int) (st:St) (d:Option Nat):aN (aC Tryz.prog) 189 [.v (.int .u64 a),.v (.int .u64 b)] st d=some { dst:=d,val:=.dX [.v (.int .u64 (I7 a b).1),.v (.int .i64 (I7 a b).2)]}:=bL (bH (.v _) (.v _)) (aRG a b) (.dX _ (bH (.v _) (.v _)))
noncomputable def PA (e p:Int):Int × Int:=if 1<=p/\p<=64 then I7 e p else (0,3)
theorem aRI (e p:Int):aC Tryz.prog 155 [.v (.int .u64 e),.v (.int .u64 p)]=some (.dX [.v (.int .u64 (PA e p).1),.v (.int .i64 (PA e p).2)]):=by
 rw[cL Tryz.func155 rfl aL9 rfl];unfold PA;by_cases h:1<=p/\p<=64
 ·have h1:(decide (1<=p) && decide (p<=64))=true:=by simp[h]
  rw[if_pos h];simp only[Z8,seval,aL7,h1,aRH,eC];exact dJ rfl rfl rfl (by simp only[E8,seval]<;>rfl) (by simp only[E8,seval]<;>rfl)
 ·have h1:(decide (1<=p) && decide (p<=64))=false:=by
   rw[Bool.eq_false_iff];intro k;simp at k;exact h k
  rw[if_neg h];simp only[Z8,seval,aL7,h1];exact dJ rfl rfl rfl (by simp only[E8,seval]<;>rfl) (by simp only[E8,seval]<;>rfl)
theorem aRJ (e p:Int) (st:St) (d:Option Nat):aN (aC Tryz.prog) 155 [.v (.int .u64 e),.v (.int .u64 p)] st d=some { dst:=d,val:=.dX [.v (.int .u64 (PA e p).1),.v (.int .i64 (PA e p).2)]}:=bL (bH (.v _) (.v _)) (aRI e p) (.dX _ (bH (.v _) (.v _)))
theorem aRK (n a b:Int):aC Tryz.prog 156 [.v (.int .i64 n),.v (.int .i64 a),.v (.int .i64 b)]=some (.v (.bool (decide (a<=n) && decide (n<=b)))):=by
 rw[cL Tryz.func156 rfl aMa rfl];by_cases h:a<=n
 all_goals
  simp only[Z8,seval,h,decide_true,decide_false,Bool.true_and,Bool.false_and];exact bT rfl (by simp only[E8,seval,h,decide_true,decide_false,Bool.true_and,Bool.false_and]<;>rfl) (.v _)
theorem aRL (n a b:Int) (st:St) (d:Option Nat):aN (aC Tryz.prog) 156 [.v (.int .i64 n),.v (.int .i64 a),.v (.int .i64 b)] st d=some { dst:=d,val:=.v (.bool (decide (a<=n) && decide (n<=b)))}:=bL (oW (.v _) (.v _) (.v _)) (aRK n a b) (.v _)
noncomputable def EU (a b:Int):Int × Int:=if IntKind.u64.wrap (18446744073709551615-b)<a then (0,4) else (IntKind.u64.wrap (a+b),0)
theorem aRM (a b:Int):aC Tryz.prog 196 [.v (.int .u64 a),.v (.int .u64 b)]=some (.dX [.v (.int .u64 (EU a b).1),.v (.int .i64 (EU a b).2)]):=by
 rw[cL Tryz.func196 rfl aMb rfl];unfold EU;by_cases h:IntKind.u64.wrap (18446744073709551615-b)<a
 ·rw[if_pos h];simp only[Z8,seval,h];exact dJ rfl rfl rfl (by simp only[E8,seval]<;>rfl) (by simp only[E8,seval]<;>rfl)
 ·rw[if_neg h];simp only[Z8,seval,h];exact dJ rfl rfl rfl (by simp only[E8,seval]<;>rfl) (by simp only[E8,seval]<;>rfl)
theorem aHR (a b:Int) (st:St) (d:Option Nat):aN (aC Tryz.prog) 196 [.v (.int .u64 a),.v (.int .u64 b)] st d=some { dst:=d,val:=.dX [.v (.int .u64 (EU a b).1),.v (.int .i64 (EU a b).2)]}:=bL (bH (.v _) (.v _)) (aRM a b) (.dX _ (bH (.v _) (.v _)))
theorem HJ (l:List Int):∀c∈bD l,eE c:=by rw[PB];intro c hc;obtain⟨x,_,rfl⟩:=List.mem_map.1 hc;exact .v _
theorem zG {ns:List Node} (h:iB ns) {i:Int} (i0:0<=i) (i1:i<ns.length):i∈path ns i:=by
 by_cases hi:i=0
 ·subst hi;rw[rV (by omega)];simp
 ·rw[rW h (by omega) i1];simp
theorem Zl {ns:List Node} (h:iB ns):∀(k:Nat) (i:Int),i.toNat=k->0<=i->i<ns.length->∀x∈path ns i,0<=x/\x<=i:=by
 intro k;induction k using Nat.strongRecOn with
 | _ k ih =>
   intro i hk i0 i1 x hx;by_cases hi:i=0
   ·subst hi;rw[rV (by omega)] at hx;simp at hx;omega
   ·obtain⟨u0,u1⟩:=h i (by omega) i1
    rw[rW h (by omega) i1] at hx
    rcases List.mem_append.1 hx with hx|hx
    ·have:=ih (nd ns i).up.toNat (by omega) _ rfl u0 (by omega) x hx
     omega
    ·simp at hx;omega
theorem vS {ns:List Node} (h:iB ns) {i x:Int} (hx:x∈path ns i):0<=x/\x<ns.length:=by
 by_cases hi:0<=i/\i<ns.length
 ·have:=Zl h _ i rfl hi.1 hi.2 x hx;omega
 ·rw[zF hi] at hx;simp at hx
def Ft (ns:List Node) (s:Int) (l:List Int):Int:=l.foldl (fun r x=>if (nd ns x).block.slot<=s then x else r) (-1)
def JS (ns:List Node) (i s:Int):Int:=Ft ns s (path ns i)
theorem Zm (ns:List Node) (s:Int) (l:List Int) (x:Int):Ft ns s (l++[x])=if (nd ns x).block.slot<=s then x else Ft ns s l:=by simp[Ft]
theorem PC {ns:List Node} {i:Int} (s:Int) (h:¬(0<=i/\i<ns.length)):JS ns i s=-1:=by unfold JS;rw[zF h];rfl
theorem aDQ {l:List Int} {j:Int} (j0:0<=j) (j1:j<l.length):l.take (j+1).toNat=l.take j.toNat++[it l j]:=by
 obtain⟨h,e⟩:=xW j0 j1
 rw[e,show (j+1).toNat=j.toNat+1 by omega,List.take_succ_eq_append_getElem h]
theorem Fu {l:List Int} {j:Int} (j0:0<=j) (j1:j<l.length):it l j∈l:=by
 obtain⟨h,e⟩:=xW j0 j1
 rw[e];exact List.getElem_mem h
theorem aRN (ns:List Node) (hu:iB ns) (hn:(ns.length:Int)<1000000) (i s:Int):aC Tryz.prog 100 [.agg (cU ⟨ns⟩),.v (.int .i64 i),.v (.int .u64 s)]=some (.v (.int .i64 (JS ns i s))):=by
 rw[cL Tryz.func100 rfl aMc rfl];by_cases hv:0<=i/\i<ns.length
 ·have hl:((path ns i).length:Int)<1000000:=by have:=Bv hu i;omega
  have hp:=k76 ns hu hn i hv.1 hv.2
  have hrg:∀x∈path ns i,0<=x/\x<ns.length:=fun x=>vS hu
  unfold JS;generalize path ns i=p at hl hp hrg
  simp only[ZZ,seval,hp];refine lP (fun n st=>∃j:Int,st.env 2=.v (.int .u64 s)/\st.env 3=.ptr 3 0 0/\st.heap 3 0=some (.cells (cU ⟨ns⟩))/\st.env 8=.own 12 0/\st.heap 12 0=some (.row 3 1 p.length (aI p))/\st.env 9=.v (.int .i64 j)/\st.env 7=.v (.int .i64 (Ft ns s (p.take j.toNat)))/\0<=j/\j<=p.length/\n=(p.length-j).toNat)
   (fun e st=>e=.exit 0/\st.env 7=.v (.int .i64 (Ft ns s p))) p.length ?step ?start ?rest
  case step =>
   rintro n st ⟨j,h2,h3,WW,h8,hh8,h9,h7,j0,j1,Kk⟩
   by_cases aZ:j<p.length
   ·have hw:IntKind.i64.wrap (j+1)=j+1:=Im _ (by omega) (by omega)
    obtain⟨x0,x1⟩:=hrg _ (Fu j0 aZ)
    have ht:=aDQ j0 aZ
    by_cases hs:(nd ns (it p j)).block.slot<=s
    ·apply oN ((p.length-(j+1)).toNat)
     ·simp only[ZZ,seval,h2,h3,WW,h8,hh8,h9,aZ,j0,hw,x0,x1,hs];rfl
     ·exact⟨j+1,by simp only[EV,seval,h2],by simp only[EV,seval,h3],by simp only[EV,seval,WW],by simp only[EV,seval,h8],by simp only[EV,seval,hh8],(by simp only[EV,seval]),by simp only[EV,seval,ht,Zm,hs],by omega,by omega,rfl⟩
    ·apply oN ((p.length-(j+1)).toNat)
     ·simp only[ZZ,seval,h2,h3,WW,h8,hh8,h9,aZ,j0,hw,x0,x1,hs];rfl
     ·exact⟨j+1,by simp only[EV,seval,h2],by simp only[EV,seval,h3],by simp only[EV,seval,WW],by simp only[EV,seval,h8],by simp only[EV,seval,hh8],(by simp only[EV,seval]),by simp only[EV,seval,ht,Zm,hs,h7],by omega,by omega,rfl⟩
   ·have ht:p.take j.toNat=p:=List.take_of_length_le (by omega)
    apply oT (.exit 0)
    ·simp only[ZZ,seval,h2,h3,WW,h8,hh8,h9,aZ,j0];rfl
    ·exact⟨rfl,by rw[<- ht];exact h7⟩
  case start=>exact⟨0,(by simp only[EV,seval]),(by simp only[EV,seval]),(by simp only[EV,seval]),(by simp only[EV,seval]),(by simp only[EV,seval]),(by simp only[EV,seval]),(by simp only[EV,seval];rfl),by omega,by omega,by omega⟩
  case rest =>
   rintro e st ⟨rfl,h⟩
   simp only[ZZ,seval,h];exact bT rfl (by simp only[EV,seval]) (.v _)
 ·rw[PC s hv];simp only[ZZ,seval,I4 ns i hv,Io,Int.natCast_zero,Int.lt_irrefl,decide_false];exact bT rfl (by simp only[EV,seval]) (.v _)
theorem PD (ns:List Node) (hu:iB ns) (hn:(ns.length:Int)<1000000) (i s:Int) (st:St) (d:Option Nat):aN (aC Tryz.prog) 100 [.agg (cU ⟨ns⟩),.v (.int .i64 i),.v (.int .u64 s)] st d=some { dst:=d,val:=.v (.int .i64 (JS ns i s))}:=bL (oW (nC _) (.v _) (.v _)) (aRN ns hu hn i s) (.v _)
theorem aHS {ns:List Node} (hu:iB ns) {a c:Int} (h1:c<ns.length) (h:a<c) (a0:0<=a):Bw ns a c=Bw ns a (nd ns c).up:=by
 unfold Bw;rw[decide_eq_decide,rW hu (by omega) h1]
 simp only[List.mem_append,List.mem_singleton];constructor
 ·rintro (hm|rfl)
  ·exact hm
  ·omega
 ·exact .inl
theorem I8 {ns:List Node} (hu:iB ns) {a c:Int} (h:¬((0<=a/\a<ns.length)/\(0<=c/\c<ns.length))):Bw ns a c=false:=by
 unfold Bw;rw[decide_eq_false_iff_not];intro hm;by_cases hc:0<=c/\c<ns.length
 ·exact h ⟨vS hu hm,hc⟩
 ·rw[zF hc] at hm;simp at hm
theorem Zn {ns:List Node} (hu:iB ns) {a c:Int} (h:Bw ns a c=true):(0<=a/\a<ns.length)/\(0<=c/\c<ns.length):=by
 by_cases hv:(0<=a/\a<ns.length)/\(0<=c/\c<ns.length)
 ·exact hv
 ·rw[I8 hu hv] at h;cases h
theorem Y2 {ns:List Node} (hu:iB ns) {a c:Int} (h:Bw ns a c=true):a<=c:=by
 have hr:=(Zn hu h).2
 unfold Bw at h;exact (Zl hu _ c rfl hr.1 hr.2 a (of_decide_eq_true h)).2
theorem aRO (a b:List Node) (hn:(a.length:Int)<1000000):aC Tryz.prog 106 [.agg (cU ⟨a⟩),.agg (cU ⟨b⟩)]=some (.v (.bool (decide (a=b)))):=by
 rw[cL Tryz.func106 rfl aMf rfl];by_cases hlen:a.length=b.length
 ·have hq:((a.length:Int) != (b.length:Int))=false:=by simp[hlen]
  simp only[ZZ,seval,hq];refine lP (fun n st=>∃i:Int,st.env 2=.ptr 2 0 0/\st.env 3=.ptr 3 0 0/\st.heap 2 0=some (.cells (cU ⟨a⟩))/\st.heap 3 0=some (.cells (cU ⟨b⟩))/\st.env 5=.v (.int .i64 i)/\0<=i/\i<=a.length/\n=(a.length-i).toNat/\∀j,0<=j->j<i->nd a j=nd b j)
   (fun e st=>(e=.ret/\st.env 4=.v (.bool (decide (a=b))))\/(e=.exit 0/\decide (a=b)=true)) a.length ?step ?start ?rest
  case step =>
   rintro n st ⟨i,h2,h3,vG,WW,h5,i0,i1,Kk,hb⟩
   by_cases aZ:i<a.length
   ·have hw:IntKind.i64.wrap (i+1)=i+1:=Im _ (by omega) (by omega)
    have PE:i<b.length:=by omega
    by_cases hr:nd a i=nd b i
    ·have hbq:decide (nd a i=nd b i)=true:=by simp[hr]
     apply oN ((a.length-(i+1)).toNat)
     ·simp only[ZZ,seval,h2,h3,vG,WW,h5,aZ,PE,i0,hbq,hw];rfl
     ·exact⟨i+1,by simp only[EV,seval,h2],by simp only[EV,seval,h3],by simp only[EV,seval,vG],by simp only[EV,seval,WW],(by simp only[EV,seval]),by omega,by omega,rfl,fun j j0 j1=>by
      rcases Int.lt_or_eq_of_le (show j<=i by omega) with h|rfl
      ·exact hb j j0 h
      ·exact hr⟩
    ·have hbq:decide (nd a i=nd b i)=false:=by simp[hr]
     have hd:decide (a=b)=false:=by rw[decide_eq_false_iff_not];intro h;exact hr (by rw[h])
     apply oT (.ret)
     ·simp only[ZZ,seval,h2,h3,vG,WW,h5,aZ,PE,i0,hbq];rfl
     ·exact .inl ⟨rfl,by simp only[EV,seval,hd]⟩
   ·apply oT (.exit 0)
    ·simp only[ZZ,seval,h2,h3,vG,WW,h5,aZ,i0];rfl
    ·exact .inr ⟨rfl,by
     rw[decide_eq_true_eq];apply List.ext_getElem hlen
     intro j h1 h2;have:=hb j (by omega) (by omega)
     simpa [nd,h1,h2] using this⟩
  case start=>exact⟨0,(by simp only[EV,seval]),(by simp only[EV,seval]),(by simp only[EV,seval]),(by simp only[EV,seval]),(by simp only[EV,seval]),by omega,by omega,by omega,fun j _ _=>by omega⟩
  case rest =>
   rintro e st (⟨rfl,h⟩|⟨rfl,h⟩)
   ·simp only[ZZ,seval];exact bT rfl h (.v _)
   ·simp only[ZZ,seval];exact bT rfl (by simp only[EV,seval,h]) (.v _)
 ·have hq:((a.length:Int) != (b.length:Int))=true:=by simp;omega
  have hd:decide (a=b)=false:=by rw[decide_eq_false_iff_not];intro h;exact hlen (by rw[h])
  simp only[ZZ,seval,hq];exact bT rfl (by simp only[EV,seval,hd]) (.v _)
theorem aRP (a b:List Node) (hn:(a.length:Int)<1000000) (st:St) (d:Option Nat):aN (aC Tryz.prog) 106 [.agg (cU ⟨a⟩),.agg (cU ⟨b⟩)] st d=some { dst:=d,val:=.v (.bool (decide (a=b)))}:=bL (bH (nC _) (nC _)) (aRO a b hn) (.v _)
def oU (ns:List Node) (i:Int):Nat->List Node × List Int
 | 0=>([],[])
 | k+1 =>
   let p:=oU ns i k
   if Bw ns i k=true then (p.1++[{ nd ns k with up:=if (k:Int)=i then -1 else it p.2 (nd ns k).up }],p.2++[(p.1.length:Int)]) else (p.1,p.2++[-1])
theorem Fv (ns:List Node) (i:Int):∀k,(oU ns i k).2.length=k
 | 0=>rfl
 | k+1=>by
   have:=Fv ns i k
   simp only[oU];split<;>simp[this]
theorem Td (ns:List Node) (i:Int):∀k,(oU ns i k).1.length<=k
 | 0=>Nat.le_refl _
 | k+1=>by
   have:=Td ns i k
   simp only[oU];split
   ·simp;exact this
   ·simp;omega
theorem mC {l m:List Int} {j:Int} (h0:0<=j) (h1:j<l.length):it (l++m) j=it l j:=by
 have:j.toNat<l.length:=by omega
 simp[it,List.getElem?_append_left this]
theorem Dp {l:List Int} {x:Int} {j:Int} (h:j=l.length):it (l++[x]) j=x:=by
 subst h;simp[it]
theorem Km {l m:List Node} {j:Int} (h0:0<=j) (h1:j<l.length):nd (l++m) j=nd l j:=by
 have:j.toNat<l.length:=by omega
 simp[nd,List.getElem?_append_left this]
theorem HK {l:List Node} {x:Node} {j:Int} (h:j=l.length):nd (l++[x]) j=x:=by
 subst h;simp[nd]
theorem PF {ns:List Node} (hu:iB ns) {i:Int} (i0:0<=i) (i1:i<ns.length):Bw ns i i=true:=by
 unfold Bw;rw[decide_eq_true_eq];by_cases h:i=0
 ·subst h;rw[rV (by omega)];simp
 ·rw[rW hu (by omega) i1];simp
theorem PG {ns:List Node} {a:Int} (h:0<ns.length):Bw ns a 0=decide (a=0):=by
 unfold Bw;rw[rV h];simp
theorem aHT (ns:List Node) (hu:iB ns) {i:Int} (i0:0<=i) (i1:i<ns.length):(oU ns i ns.length).1≠[]:=by
 have main:∀k:Nat,i<k->k<=ns.length->(oU ns i k).1≠[]:=by
  intro k;induction k with
  | zero=>intro h;omega
  | succ k ih =>
    intro h1 h2;by_cases hk:i<k
    ·have:=ih hk (by omega)
     simp only[oU];split
     ·simp
     ·exact this
    ·have hki:i=k:=by omega
     have:Bw ns i k=true:=by rw[<- hki];exact PF hu i0 i1
     simp[oU,this]
 exact main ns.length i1 (Nat.le_refl _)
def aMg (st:St) (s1 s2:Nat) (y:AV) (l:List Int):Prop :=
 (y=.v (.slice none 0 0)/\l=[])\/(∃g,y=.own s1 g/\g<st.aK s1/\st.heap s1 g=some (.row 3 1 l.length (aI l)))\/(∃g,y=.own s2 g/\g<st.aK s2/\st.heap s2 g=some (.row 3 1 l.length (aI l)))
def aMh (st:St) (s1:Nat) (x:AV) (l:List Node):Prop :=
 (x=.v (.slice none 0 0)/\l=[])\/(∃g,x=.own s1 g/\g<st.aK s1/\st.heap s1 g=some (.row 76 240 l.length (cD l)))
theorem c34 (ns:List Node) (hu:iB ns) (hn:(ns.length:Int)<1000000) (i:Int) (i0:0<=i) (i1:i<ns.length):aC Tryz.prog 34 [.agg (cU ⟨ns⟩),.v (.int .i64 i)] =
 some (.dX [.agg (cU ⟨(oU ns i ns.length).1⟩),.sl (oU ns i ns.length).2.length (aI (oU ns i ns.length).2),.v (.int .i64 0)]):=by
 have hd:(decide (0<=i) && decide (i<ns.length))=true:=by simp[i0,i1]
 rw[cL Tryz.func34 rfl aRQ rfl];simp only[ZZ,seval,WC,hd];refine lP (fun n st=>∃(k:Nat) (x y:AV),st.env 2=.ptr 2 0 0/\st.heap 2 0=some (.cells (cU ⟨ns⟩))/\st.env 4=.ptr 4 0 0/\st.heap 4 0=some (.cells [.v (.slice none 0 0)])/\st.env 7=.ptr 7 0 0/\st.heap 7 0=some (.cells [x]) /\
  st.env 1=.v (.int .i64 i)/\st.env 9=.v (.int .i64 k)/\k<=ns.length/\n=ns.length-k/\st.env 8=y/\aMg st 30 51 y (oU ns i k).2/\aMh st 56 x (oU ns i k).1)
  (fun e st=>e=.exit 0/\∃(x y:AV),st.env 4=.ptr 4 0 0/\st.heap 4 0=some (.cells [.v (.slice none 0 0)])/\st.env 7=.ptr 7 0 0/\st.heap 7 0=some (.cells [x])/\st.env 8=y/\aMg st 30 51 y (oU ns i ns.length).2/\aMh st 56 x (oU ns i ns.length).1) ns.length ?step ?start ?rest
 case step =>
  rintro n st ⟨k,x,y,h2,vG,h4,Fw,h7,Hn,h1,h9,hk,Kk,h8,hy,hx⟩
  have hlen:=Fv ns i k
  have hlen2:=Td ns i k
  have Sz:((oU ns i k).2.length:Int)<1000000:=by omega
  have I9:((oU ns i k).1.length:Int)<1000000:=by omega
  by_cases aZ:(k:Int)<ns.length
  ·have hw:IntKind.i64.wrap ((k:Int)+1)=((k+1:Nat):Int):=by rw[Im _ (by omega) (by omega)];simp
   have k0:(0:Int)<=k:=by omega
   by_cases Qa:Bw ns i k=true
   ·have hs:oU ns i (k+1)=((oU ns i k).1++[{ nd ns k with up:=if (k:Int)=i then -1 else it (oU ns i k).2 (nd ns k).up }],(oU ns i k).2++[((oU ns i k).1.length:Int)]):=by simp only[oU,Qa,if_true]
    have upb:(k:Int)≠i->0<=(nd ns k).up/\(nd ns k).up<(oU ns i k).2.length:=fun gI=>by
     rcases Nat.eq_zero_or_pos k with h0|h0
     ·subst h0;rw[show ((0:Nat):Int)=0 from rfl,PG (by omega)] at Qa
      simp at Qa
      omega
     ·have:=hu k (by omega) aZ
      rw[hlen];omega
    by_cases hki:(k:Int)=i
    ·have hq:((k:Int) == i)=true:=by simp[hki]
     rw[if_pos hki] at hs;rcases hy with ⟨rfl,hy⟩|⟨g,rfl,hg,hy⟩|⟨g,rfl,hg,hy⟩<;>rcases hx with ⟨rfl,hx⟩|⟨g',rfl,J0,hx⟩
     ·rw[hy,hx] at hs;apply oN ((ns.length-(k+1)))
      ·simp only[ZZ,seval,h2,vG,h4,Fw,h7,Hn,h1,h9,h8,aZ,k0,Px ns hu hn,Qa,hw,hq];rfl
      ·exact⟨k+1,_,_,(by simp only[EV,seval,h2]),(by simp only[EV,seval,vG]),(by simp only[EV,seval,h4]),(by simp only[EV,seval,Fw]),(by simp only[EV,seval,h7]),(by simp only[EV,seval];rfl),(by simp only[EV,seval,h1]),(by simp only[EV,seval]),by omega,by omega,(by simp only[EV,seval];rfl),(by rw[hs];(try simp only[List.nil_append]);exact .inr (.inr ⟨_,rfl,(by simp only[EV,seval]<;>omega),(by simp only[EV,seval]<;>rfl)⟩)),(by rw[hs];(try simp only[List.nil_append]);exact .inr ⟨_,rfl,(by simp only[EV,seval]<;>omega),(by simp only[EV,seval]<;>rfl)⟩)⟩
     ·rw[hy] at hs;apply oN ((ns.length-(k+1)))
      ·simp only[ZZ,seval,h2,vG,h4,Fw,h7,Hn,h1,h9,h8,aZ,k0,Px ns hu hn,Qa,hw,hq,hx,I9];rfl
      ·exact⟨k+1,_,_,(by simp only[EV,seval,h2]),(by simp only[EV,seval,vG]),(by simp only[EV,seval,h4]),(by simp only[EV,seval,Fw]),(by simp only[EV,seval,h7]),(by simp only[EV,seval];rfl),(by simp only[EV,seval,h1]),(by simp only[EV,seval]),by omega,by omega,(by simp only[EV,seval];rfl),(by rw[hs];(try simp only[List.nil_append]);exact .inr (.inr ⟨_,rfl,(by simp only[EV,seval]<;>omega),(by simp only[EV,seval]<;>rfl)⟩)),(by rw[hs];(try simp only[List.nil_append]);exact .inr ⟨_,rfl,(by simp only[EV,seval]<;>omega),(by simp only[EV,seval]<;>rfl)⟩)⟩
     ·rw[hx] at hs;apply oN ((ns.length-(k+1)))
      ·simp only[ZZ,seval,h2,vG,h4,Fw,h7,Hn,h1,h9,h8,aZ,k0,Px ns hu hn,Qa,hw,hq,hy,Sz];rfl
      ·exact⟨k+1,_,_,(by simp only[EV,seval,h2]),(by simp only[EV,seval,vG]),(by simp only[EV,seval,h4]),(by simp only[EV,seval,Fw]),(by simp only[EV,seval,h7]),(by simp only[EV,seval];rfl),(by simp only[EV,seval,h1]),(by simp only[EV,seval]),by omega,by omega,(by simp only[EV,seval];rfl),(by rw[hs];(try simp only[List.nil_append]);exact .inr (.inr ⟨_,rfl,(by simp only[EV,seval]<;>omega),(by simp only[EV,seval]<;>rfl)⟩)),(by rw[hs];(try simp only[List.nil_append]);exact .inr ⟨_,rfl,(by simp only[EV,seval]<;>omega),(by simp only[EV,seval]<;>rfl)⟩)⟩
     ·apply oN ((ns.length-(k+1)))
      ·simp only[ZZ,seval,h2,vG,h4,Fw,h7,Hn,h1,h9,h8,aZ,k0,Px ns hu hn,Qa,hw,hq,hy,Sz,hx,I9];rfl
      ·exact⟨k+1,_,_,(by simp only[EV,seval,h2]),(by simp only[EV,seval,vG]),(by simp only[EV,seval,h4]),(by simp only[EV,seval,Fw]),(by simp only[EV,seval,h7]),(by simp only[EV,seval];rfl),(by simp only[EV,seval,h1]),(by simp only[EV,seval]),by omega,by omega,(by simp only[EV,seval];rfl),(by rw[hs];(try simp only[List.nil_append]);exact .inr (.inr ⟨_,rfl,(by simp only[EV,seval]<;>omega),(by simp only[EV,seval]<;>rfl)⟩)),(by rw[hs];(try simp only[List.nil_append]);exact .inr ⟨_,rfl,(by simp only[EV,seval]<;>omega),(by simp only[EV,seval]<;>rfl)⟩)⟩
     ·rw[hx] at hs;apply oN ((ns.length-(k+1)))
      ·simp only[ZZ,seval,h2,vG,h4,Fw,h7,Hn,h1,h9,h8,aZ,k0,Px ns hu hn,Qa,hw,hq,hy,Sz];rfl
      ·exact⟨k+1,_,_,(by simp only[EV,seval,h2]),(by simp only[EV,seval,vG]),(by simp only[EV,seval,h4]),(by simp only[EV,seval,Fw]),(by simp only[EV,seval,h7]),(by simp only[EV,seval];rfl),(by simp only[EV,seval,h1]),(by simp only[EV,seval]),by omega,by omega,(by simp only[EV,seval];rfl),(by rw[hs];(try simp only[List.nil_append]);exact .inr (.inr ⟨_,rfl,(by simp only[EV,seval]<;>omega),(by simp only[EV,seval]<;>rfl)⟩)),(by rw[hs];(try simp only[List.nil_append]);exact .inr ⟨_,rfl,(by simp only[EV,seval]<;>omega),(by simp only[EV,seval]<;>rfl)⟩)⟩
     ·apply oN ((ns.length-(k+1)))
      ·simp only[ZZ,seval,h2,vG,h4,Fw,h7,Hn,h1,h9,h8,aZ,k0,Px ns hu hn,Qa,hw,hq,hy,Sz,hx,I9];rfl
      ·exact⟨k+1,_,_,(by simp only[EV,seval,h2]),(by simp only[EV,seval,vG]),(by simp only[EV,seval,h4]),(by simp only[EV,seval,Fw]),(by simp only[EV,seval,h7]),(by simp only[EV,seval];rfl),(by simp only[EV,seval,h1]),(by simp only[EV,seval]),by omega,by omega,(by simp only[EV,seval];rfl),(by rw[hs];(try simp only[List.nil_append]);exact .inr (.inr ⟨_,rfl,(by simp only[EV,seval]<;>omega),(by simp only[EV,seval]<;>rfl)⟩)),(by rw[hs];(try simp only[List.nil_append]);exact .inr ⟨_,rfl,(by simp only[EV,seval]<;>omega),(by simp only[EV,seval]<;>rfl)⟩)⟩
    ·have hq:((k:Int) == i)=false:=by simp[hki]
     obtain⟨u0,u1⟩:=upb hki
     rw[if_neg hki] at hs;rcases hy with ⟨rfl,hy⟩|⟨g,rfl,hg,hy⟩|⟨g,rfl,hg,hy⟩<;>rcases hx with ⟨rfl,hx⟩|⟨g',rfl,J0,hx⟩
     ·exfalso;rw[hy] at u1;simp at u1;omega
     ·exfalso;rw[hy] at u1;simp at u1;omega
     ·rw[hx] at hs;apply oN ((ns.length-(k+1)))
      ·simp only[ZZ,seval,h2,vG,h4,Fw,h7,Hn,h1,h9,h8,aZ,k0,Px ns hu hn,Qa,hw,hq,u0,u1,hy,Sz];rfl
      ·exact⟨k+1,_,_,(by simp only[EV,seval,h2]),(by simp only[EV,seval,vG]),(by simp only[EV,seval,h4]),(by simp only[EV,seval,Fw]),(by simp only[EV,seval,h7]),(by simp only[EV,seval];rfl),(by simp only[EV,seval,h1]),(by simp only[EV,seval]),by omega,by omega,(by simp only[EV,seval];rfl),(by rw[hs];(try simp only[List.nil_append]);exact .inr (.inr ⟨_,rfl,(by simp only[EV,seval]<;>omega),(by simp only[EV,seval]<;>rfl)⟩)),(by rw[hs];(try simp only[List.nil_append]);exact .inr ⟨_,rfl,(by simp only[EV,seval]<;>omega),(by simp only[EV,seval]<;>rfl)⟩)⟩
     ·apply oN ((ns.length-(k+1)))
      ·simp only[ZZ,seval,h2,vG,h4,Fw,h7,Hn,h1,h9,h8,aZ,k0,Px ns hu hn,Qa,hw,hq,u0,u1,hy,Sz,hx,I9];rfl
      ·exact⟨k+1,_,_,(by simp only[EV,seval,h2]),(by simp only[EV,seval,vG]),(by simp only[EV,seval,h4]),(by simp only[EV,seval,Fw]),(by simp only[EV,seval,h7]),(by simp only[EV,seval];rfl),(by simp only[EV,seval,h1]),(by simp only[EV,seval]),by omega,by omega,(by simp only[EV,seval];rfl),(by rw[hs];(try simp only[List.nil_append]);exact .inr (.inr ⟨_,rfl,(by simp only[EV,seval]<;>omega),(by simp only[EV,seval]<;>rfl)⟩)),(by rw[hs];(try simp only[List.nil_append]);exact .inr ⟨_,rfl,(by simp only[EV,seval]<;>omega),(by simp only[EV,seval]<;>rfl)⟩)⟩
     ·rw[hx] at hs;apply oN ((ns.length-(k+1)))
      ·simp only[ZZ,seval,h2,vG,h4,Fw,h7,Hn,h1,h9,h8,aZ,k0,Px ns hu hn,Qa,hw,hq,u0,u1,hy,Sz];rfl
      ·exact⟨k+1,_,_,(by simp only[EV,seval,h2]),(by simp only[EV,seval,vG]),(by simp only[EV,seval,h4]),(by simp only[EV,seval,Fw]),(by simp only[EV,seval,h7]),(by simp only[EV,seval];rfl),(by simp only[EV,seval,h1]),(by simp only[EV,seval]),by omega,by omega,(by simp only[EV,seval];rfl),(by rw[hs];(try simp only[List.nil_append]);exact .inr (.inr ⟨_,rfl,(by simp only[EV,seval]<;>omega),(by simp only[EV,seval]<;>rfl)⟩)),(by rw[hs];(try simp only[List.nil_append]);exact .inr ⟨_,rfl,(by simp only[EV,seval]<;>omega),(by simp only[EV,seval]<;>rfl)⟩)⟩
     ·apply oN ((ns.length-(k+1)))
      ·simp only[ZZ,seval,h2,vG,h4,Fw,h7,Hn,h1,h9,h8,aZ,k0,Px ns hu hn,Qa,hw,hq,u0,u1,hy,Sz,hx,I9];rfl
      ·exact⟨k+1,_,_,(by simp only[EV,seval,h2]),(by simp only[EV,seval,vG]),(by simp only[EV,seval,h4]),(by simp only[EV,seval,Fw]),(by simp only[EV,seval,h7]),(by simp only[EV,seval];rfl),(by simp only[EV,seval,h1]),(by simp only[EV,seval]),by omega,by omega,(by simp only[EV,seval];rfl),(by rw[hs];(try simp only[List.nil_append]);exact .inr (.inr ⟨_,rfl,(by simp only[EV,seval]<;>omega),(by simp only[EV,seval]<;>rfl)⟩)),(by rw[hs];(try simp only[List.nil_append]);exact .inr ⟨_,rfl,(by simp only[EV,seval]<;>omega),(by simp only[EV,seval]<;>rfl)⟩)⟩
   ·have Zo:Bw ns i k=false:=by simpa using Qa
    have hs:oU ns i (k+1)=((oU ns i k).1,(oU ns i k).2++[-1]):=by simp[oU,Zo]
    rcases hy with ⟨rfl,hy⟩|⟨g,rfl,hg,hy⟩|⟨g,rfl,hg,hy⟩<;>rcases hx with ⟨rfl,hx⟩|⟨g',rfl,J0,hx⟩
    ·rw[hy,hx] at hs;apply oN ((ns.length-(k+1)))
     ·simp only[ZZ,seval,h2,vG,h4,Fw,h7,Hn,h1,h9,h8,aZ,k0,Px ns hu hn,Zo,hw];rfl
     ·exact⟨k+1,_,_,(by simp only[EV,seval,h2]),(by simp only[EV,seval,vG]),(by simp only[EV,seval,h4]),(by simp only[EV,seval,Fw]),(by simp only[EV,seval,h7]),(by simp only[EV,seval,Hn];rfl),(by simp only[EV,seval,h1]),(by simp only[EV,seval]),by omega,by omega,(by simp only[EV,seval];rfl),(by rw[hs];(try simp only[List.nil_append]);exact .inr (.inl ⟨_,rfl,(by simp only[EV,seval]<;>omega),(by simp only[EV,seval]<;>rfl)⟩)),(by rw[hs];exact .inl ⟨rfl,rfl⟩)⟩
    ·rw[hy] at hs;apply oN ((ns.length-(k+1)))
     ·simp only[ZZ,seval,h2,vG,h4,Fw,h7,Hn,h1,h9,h8,aZ,k0,Px ns hu hn,Zo,hw,hx,I9];rfl
     ·exact⟨k+1,_,_,(by simp only[EV,seval,h2]),(by simp only[EV,seval,vG]),(by simp only[EV,seval,h4]),(by simp only[EV,seval,Fw]),(by simp only[EV,seval,h7]),(by simp only[EV,seval,Hn];rfl),(by simp only[EV,seval,h1]),(by simp only[EV,seval]),by omega,by omega,(by simp only[EV,seval];rfl),(by rw[hs];(try simp only[List.nil_append]);exact .inr (.inl ⟨_,rfl,(by simp only[EV,seval]<;>omega),(by simp only[EV,seval]<;>rfl)⟩)),(by rw[hs];exact .inr ⟨_,rfl,(by simp only[EV,seval]<;>omega),(by simp only[EV,seval,hx])⟩)⟩
    ·rw[hx] at hs;apply oN ((ns.length-(k+1)))
     ·simp only[ZZ,seval,h2,vG,h4,Fw,h7,Hn,h1,h9,h8,aZ,k0,Px ns hu hn,Zo,hw,hy,Sz];rfl
     ·exact⟨k+1,_,_,(by simp only[EV,seval,h2]),(by simp only[EV,seval,vG]),(by simp only[EV,seval,h4]),(by simp only[EV,seval,Fw]),(by simp only[EV,seval,h7]),(by simp only[EV,seval,Hn];rfl),(by simp only[EV,seval,h1]),(by simp only[EV,seval]),by omega,by omega,(by simp only[EV,seval];rfl),(by rw[hs];(try simp only[List.nil_append]);exact .inr (.inl ⟨_,rfl,(by simp only[EV,seval]<;>omega),(by simp only[EV,seval]<;>rfl)⟩)),(by rw[hs];exact .inl ⟨rfl,rfl⟩)⟩
    ·apply oN ((ns.length-(k+1)))
     ·simp only[ZZ,seval,h2,vG,h4,Fw,h7,Hn,h1,h9,h8,aZ,k0,Px ns hu hn,Zo,hw,hy,Sz,hx,I9];rfl
     ·exact⟨k+1,_,_,(by simp only[EV,seval,h2]),(by simp only[EV,seval,vG]),(by simp only[EV,seval,h4]),(by simp only[EV,seval,Fw]),(by simp only[EV,seval,h7]),(by simp only[EV,seval,Hn];rfl),(by simp only[EV,seval,h1]),(by simp only[EV,seval]),by omega,by omega,(by simp only[EV,seval];rfl),(by rw[hs];(try simp only[List.nil_append]);exact .inr (.inl ⟨_,rfl,(by simp only[EV,seval]<;>omega),(by simp only[EV,seval]<;>rfl)⟩)),(by rw[hs];exact .inr ⟨_,rfl,(by simp only[EV,seval]<;>omega),(by simp only[EV,seval,hx])⟩)⟩
    ·rw[hx] at hs;apply oN ((ns.length-(k+1)))
     ·simp only[ZZ,seval,h2,vG,h4,Fw,h7,Hn,h1,h9,h8,aZ,k0,Px ns hu hn,Zo,hw,hy,Sz];rfl
     ·exact⟨k+1,_,_,(by simp only[EV,seval,h2]),(by simp only[EV,seval,vG]),(by simp only[EV,seval,h4]),(by simp only[EV,seval,Fw]),(by simp only[EV,seval,h7]),(by simp only[EV,seval,Hn];rfl),(by simp only[EV,seval,h1]),(by simp only[EV,seval]),by omega,by omega,(by simp only[EV,seval];rfl),(by rw[hs];(try simp only[List.nil_append]);exact .inr (.inl ⟨_,rfl,(by simp only[EV,seval]<;>omega),(by simp only[EV,seval]<;>rfl)⟩)),(by rw[hs];exact .inl ⟨rfl,rfl⟩)⟩
    ·apply oN ((ns.length-(k+1)))
     ·simp only[ZZ,seval,h2,vG,h4,Fw,h7,Hn,h1,h9,h8,aZ,k0,Px ns hu hn,Zo,hw,hy,Sz,hx,I9];rfl
     ·exact⟨k+1,_,_,(by simp only[EV,seval,h2]),(by simp only[EV,seval,vG]),(by simp only[EV,seval,h4]),(by simp only[EV,seval,Fw]),(by simp only[EV,seval,h7]),(by simp only[EV,seval,Hn];rfl),(by simp only[EV,seval,h1]),(by simp only[EV,seval]),by omega,by omega,(by simp only[EV,seval];rfl),(by rw[hs];(try simp only[List.nil_append]);exact .inr (.inl ⟨_,rfl,(by simp only[EV,seval]<;>omega),(by simp only[EV,seval]<;>rfl)⟩)),(by rw[hs];exact .inr ⟨_,rfl,(by simp only[EV,seval]<;>omega),(by simp only[EV,seval,hx])⟩)⟩
  ·have Hy:k=ns.length:=by omega
   subst Hy;apply oT (.exit 0)
   ·simp only[ZZ,seval,h2,vG,h4,Fw,h7,Hn,h1,h9,h8,aZ];rfl
   ·exact⟨rfl,x,y,(by simp only[EV,seval,h4]),(by simp only[EV,seval,Fw]),(by simp only[EV,seval,h7]),(by simp only[EV,seval,Hn]),(by simp only[EV,seval,h8]),hy,hx⟩
 case start=>exact⟨0,_,_,(by simp only[EV,seval]),(by simp only[EV,seval]),(by simp only[EV,seval]),(by simp only[EV,seval]),(by simp only[EV,seval]),(by simp only[EV,seval]<;>rfl),(by simp only[EV,seval]),(by simp only[EV,seval]<;>rfl),by omega,by omega,(by simp only[EV,seval]<;>rfl),.inl ⟨rfl,rfl⟩,.inl ⟨rfl,rfl⟩⟩
 case rest =>
  rintro e st ⟨rfl,x,y,h4,Fw,h7,Hn,h8,hy,hx⟩
  have hlen:=Fv ns i ns.length
  have gI:=aHT ns hu i0 i1
  rcases hy with ⟨rfl,hy⟩|⟨g,rfl,hg,hy⟩|⟨g,rfl,hg,hy⟩<;>rcases hx with ⟨rfl,hx⟩|⟨g',rfl,J0,hx⟩
  ·exact absurd hx gI
  ·rw[hy] at hlen;simp at hlen;omega
  ·exact absurd hx gI
  ·simp only[ZZ,seval,h4,Fw,h7,Hn,h8];exact gR rfl (by simp only[bX,ZZ,seval,h4,Fw,h7,Hn,h8];rfl) (by simp only[bX,EV,seval]<;>rfl) (by simp only[bX,EV,seval]<;>rfl) (by simp only[EV,seval,hx,Option.map_some]<;>rfl) (by simp only[EV,seval,hy]) (by simp only[EV,seval])
  ·exact absurd hx gI
  ·simp only[ZZ,seval,h4,Fw,h7,Hn,h8];exact gR rfl (by simp only[bX,ZZ,seval,h4,Fw,h7,Hn,h8];rfl) (by simp only[bX,EV,seval]<;>rfl) (by simp only[bX,EV,seval]<;>rfl) (by simp only[EV,seval,hx,Option.map_some]<;>rfl) (by simp only[EV,seval,hy]) (by simp only[EV,seval])
theorem J1 {P:Program} {b:Code} {st:St} {k:Ex × St->Option (Ex × St)} {R:Ex->St->Prop} (Inv:Nat->St->Prop) (Q:Ex->St->Prop) (n:Nat)
 (step:∀n st,Inv n st->∃e st',Ac P b st=some (e,st')/\((e=.normal/\∃m,m<n/\Inv m st')\/(e≠.normal/\Q e st')))
 (start:Inv n st) (rest:∀e st',Q e st'->∃e' Y3,k (e,st')=some (e',Y3)/\R e' Y3):∃e' Y3,cA (Ac P (.loop b) st) k=some (e',Y3)/\R e' Y3:=by
 obtain⟨e,s1,h1,h2,h3⟩:=Te Inv Q step n st start
 rw[h1];exact rest e s1 h3
theorem Y4 {x:Option (Ex × St)} {st':St} {n:Nat} {Inv:Nat->St->Prop} {Q:Ex->St->Prop} (h:x=some (.normal,st')) (m:Nat) (hm:m<n) (hi:Inv m st') :
 ∃e st',x=some (e,st')/\((e=.normal/\∃m,m<n/\Inv m st')\/(e≠.normal/\Q e st')):=⟨_,_,h,.inl ⟨rfl,m,hm,hi⟩⟩
theorem J2 {call:Nat->List AV->Option AV} {ops:Array Oper} {st:St} {T:Nat} {pos:String} {eK:Array Edge} (d:Nat) (x y:Operand) {a b:Int} (h1:st.ev x=.v (.int .i64 a)) (h2:st.ev y=.v (.int .i64 b)):cE Tryz.prog call ops ⟨some d,.buildSlice 22 2 #[(0,x),(1,y)],T,pos,eK,none⟩ st =
 some ((st.new d (.row 3 1 2 (aI [a,b]))).put (some d) (.own d (st.aK d))):=by
 rw[jS];simp[Lx,ze3,cA,h1,h2,AV.jO,Value.oneCell',gM,AV.cells,List.range,List.range.loop,aI,qD]
theorem Fx {call:Nat->List AV->Option AV} {ops:Array Oper} {st:St} {T:Nat} {pos:String} {eK:Array Edge} (d:Nat) (x y:Operand):cE Tryz.prog call ops ⟨some d,.buildSlice 22 2 #[(0,x),(1,y)],T,pos,eK,none⟩ st =
 Nr (st.ev x) (fun a=>Nr (st.ev y) (fun b=>some ((st.new d (.row 3 1 2 (aI [a,b]))).put (some d) (.own d (st.aK d)))) (cE Tryz.prog call ops ⟨some d,.buildSlice 22 2 #[(0,x),(1,y)],T,pos,eK,none⟩ st))
  (cE Tryz.prog call ops ⟨some d,.buildSlice 22 2 #[(0,x),(1,y)],T,pos,eK,none⟩ st):=by
 unfold Nr;split
 ·rename_i a h1;try dsimp only
  split
  ·rename_i b h2;exact J2 d x y h1 h2
  ·rfl
 ·rfl
def Ho (ns:List Node) (i:Int):Nat->List Int
 | 0=>[]
 | k+1=>if Bw ns i k=true then Ho ns i k++[(k:Int)] else Ho ns i k
theorem Yh (ns:List Node) (i:Int):∀k,(Ho ns i k).length<=k
 | 0=>Nat.le_refl _
 | k+1=>by
   have:=Yh ns i k
   simp only[Ho];split
   ·simp;omega
   ·omega
theorem WX {ns:List Node} (hu:iB ns) {i:Int} (i0:0<=i) (i1:i<ns.length):∀k:Nat,i<k->Ho ns i k≠[]
 | 0,h=>by omega
 | k+1,h=>by
   simp only[Ho];by_cases hk:i=k
   ·rw[if_pos (by unfold Bw;rw[<- hk];exact decide_eq_true (zG hu i0 i1))];simp
   ·have:=WX hu i0 i1 k (by omega)
    split
    ·simp
    ·exact this
theorem B7 (ns:List Node) (i x:Int):∀k:Nat,x∈Ho ns i k↔(0<=x/\x<k)/\Bw ns i x=true
 | 0=>by simp[Ho];intro h h';omega
 | k+1=>by
   have ih:=B7 ns i x k
   simp only[Ho];split
   ·rename_i h;rw[List.mem_append,ih,List.mem_singleton];constructor
    ·rintro (⟨h1,h2⟩|rfl)
     ·exact⟨by omega,h2⟩
     ·exact⟨by omega,h⟩
    ·rintro⟨h1,h2⟩
     by_cases hk:x=k
     ·exact .inr hk
     ·exact .inl ⟨by omega,h2⟩
   ·rename_i h;rw[ih];constructor
    ·rintro⟨h1,h2⟩;exact⟨by omega,h2⟩
    ·rintro⟨h1,h2⟩
     by_cases hk:x=k
     ·subst hk;exact absurd h2 h
     ·exact⟨by omega,h2⟩
def aDS (ns:List Node) (i:Int):AV:=.dX [.agg (cU ⟨(oU ns i ns.length).1⟩),.sl (oU ns i ns.length).2.length (aI (oU ns i ns.length).2),.v (.int .i64 0)]
theorem J3 (ns:List Node) (i:Int):Flat (aDS ns i):=.dX _ (oW (nC _) (Tc _) (.v _))
theorem k34 (ns:List Node) (hu:iB ns) (hn:(ns.length:Int)<1000000) (i:Int) (h:0<=i/\i<ns.length) (st:St) (d:Option Nat):aN (aC Tryz.prog) 34 [.agg (cU ⟨ns⟩),.v (.int .i64 i)] st d=some { dst:=d,val:=aDS ns i }:=bL (bH (nC _) (.v _)) (c34 ns hu hn i h.1 h.2) (J3 ns i)
theorem WY {ns:List Node} (hu:iB ns) {i:Int}:∀k:Nat,k<=ns.length->∀a:Int,0<=a->a<k->Bw ns i a=true ->
 0<=it (oU ns i k).2 a/\it (oU ns i k).2 a<(oU ns i k).1.length/\nd (oU ns i k).1 (it (oU ns i k).2 a)={ nd ns a with up:=if a=i then -1 else it (oU ns i k).2 (nd ns a).up }
 | 0,_,a,a0,a1,_=>by omega
 | k+1,hk,a,a0,a1,ha=>by
   have hl:=Fv ns i k
   have Zp:a≠i->0<=(nd ns a).up/\(nd ns a).up<a:=fun h=>by
    by_cases ha0:a=0
    ·subst ha0;rw[PG (by omega)] at ha;simp at ha;omega
    ·exact hu a (by omega) (by omega)
   by_cases hak:a<k
   ·obtain⟨h1,h2,h3⟩:=WY hu k (by omega) a a0 hak ha
    simp only[oU];split
    ·simp only
     rw[mC a0 (by omega),Km h1 h2,h3]
     refine⟨h1,by simp;omega, ?_⟩
     by_cases HL:a=i
     ·rw[if_pos HL,if_pos HL]
     ·obtain⟨u0,u1⟩:=Zp HL
      rw[if_neg HL,if_neg HL,mC u0 (by omega)]
    ·simp only
     rw[mC a0 (by omega),h3]
     refine⟨h1,h2, ?_⟩
     by_cases HL:a=i
     ·rw[if_pos HL,if_pos HL]
     ·obtain⟨u0,u1⟩:=Zp HL
      rw[if_neg HL,if_neg HL,mC u0 (by omega)]
   ·have hak:a=k:=by omega
    subst hak;simp only[oU,ha,if_true];rw[Dp (by omega),HK rfl]
    refine⟨by omega,by simp<;>omega, ?_⟩
    by_cases HL:(k:Int)=i
    ·rw[if_pos HL,if_pos HL]
    ·obtain⟨u0,u1⟩:=Zp HL
     rw[if_neg HL,if_neg HL,mC u0 (by omega)]
theorem Ns (ns:List Node) (i:Int):∀(d k:Nat) (a:Int),0<=a->a<k->it (oU ns i (k+d)).2 a=it (oU ns i k).2 a
 | 0,k,a,_,_=>rfl
 | d+1,k,a,a0,a1=>by
   have ih:=Ns ns i d k a a0 a1
   have hl:=Fv ns i (k+d)
   rw[<- ih,<- Nat.add_assoc];simp only[oU];split
   ·simp only;rw[mC a0 (by omega)]
   ·simp only;rw[mC a0 (by omega)]
theorem aDT {ns:List Node} {i:Int} {n:Nat} {k:Nat} (hk:k<n) (ha:Bw ns i k=true):it (oU ns i n).2 k=(oU ns i k).1.length:=by
 obtain⟨d,rfl⟩:∃d,n=k+1+d:=⟨n-(k+1),by omega⟩
 rw[Ns ns i d (k+1) k (by omega) (by omega)]
 have hl:=Fv ns i k
 simp only[oU,ha,if_true];rw[Dp (by omega)]
theorem Y5 {ns:List Node} (hu:iB ns) {i:Int} {n:Nat} (hn:n<=ns.length) {a b:Int} (a0:0<=a) (hab:a<b) (hb:b<n) (ha:Bw ns i a=true) (nA:Bw ns i b=true):it (oU ns i n).2 a<it (oU ns i n).2 b:=by
 obtain⟨k,rfl⟩:∃k:Nat,b=k:=⟨b.toNat,by omega⟩
 rw[aDT (by omega) nA]
 obtain⟨d,rfl⟩:∃d,n=k+d:=⟨n-k,by omega⟩
 rw[Ns ns i d k a a0 hab];exact (WY hu k (by omega) a a0 hab ha).2.1
theorem Qb (ns:List Node) (i:Int):∀(k:Nat) (m:Int),0<=m->m<(oU ns i k).1.length->∃a:Int,0<=a/\a<k/\Bw ns i a=true/\it (oU ns i k).2 a=m
 | 0,m,m0,m1=>by simp[oU] at m1;omega
 | k+1,m,m0,m1=>by
   have hl:=Fv ns i k
   simp only[oU] at m1 ⊢;split at m1
   ·rename_i h;rw[if_pos h];simp only at m1 ⊢
    by_cases hm:m<(oU ns i k).1.length
    ·obtain⟨a,a0,a1,ha,he⟩:=Qb ns i k m m0 hm
     exact⟨a,a0,by omega,ha,by rw[mC a0 (by omega)];exact he⟩
    ·simp at m1
     exact⟨k,by omega,by omega,h,by rw[Dp (by omega)];omega⟩
   ·rename_i h;rw[if_neg h];simp only at m1 ⊢
    obtain⟨a,a0,a1,ha,he⟩:=Qb ns i k m m0 m1
    exact⟨a,a0,by omega,ha,by rw[mC a0 (by omega)];exact he⟩
end Go.Ab.Tryz
section
namespace Go.Ab.Tryz
open Classical Go.Proofs Go.Ab
variable {ns:List Node} {i:Int}
theorem PH (hu:iB ns) {a:Int} (ha:Bw ns i a=true):0<=it (oU ns i ns.length).2 a/\it (oU ns i ns.length).2 a<(oU ns i ns.length).1.length/\nd (oU ns i ns.length).1 (it (oU ns i ns.length).2 a)={ nd ns a with up:=if a=i then -1 else it (oU ns i ns.length).2 (nd ns a).up }:=by
 have h:=(Zn hu ha).2
 exact WY hu ns.length (Nat.le_refl _) a h.1 h.2 ha
theorem B8 (hu:iB ns) {a b:Int} (hab:a<b) (ha:Bw ns i a=true) (hb:Bw ns i b=true):it (oU ns i ns.length).2 a<it (oU ns i ns.length).2 b :=
 Y5 hu (Nat.le_refl _) (Zn hu ha).2.1 hab (Zn hu hb).2.2 ha hb
theorem B9 (hu:iB ns) (hi:Bw ns i i=true):it (oU ns i ns.length).2 i=0:=by
 obtain⟨h1,h2,_⟩:=PH hu hi
 obtain⟨a,a0,a1,ha,he⟩:=Qb ns i ns.length 0 (Int.le_refl 0) (by omega)
 have:=Y2 hu ha
 by_cases h:i=a
 ·rw[h] at he ⊢;rw[<- h] at he ⊢;exact he
 ·have:=B8 hu (show i<a by omega) hi ha
  omega
theorem aMi (hu:iB ns) {a:Int} (ha:Bw ns i a=true) (h:a≠i):0<a/\(0<=(nd ns a).up/\(nd ns a).up<a)/\Bw ns i (nd ns a).up=true:=by
 obtain⟨⟨i0,_⟩,a0,a1⟩:=Zn hu ha
 have:=Y2 hu ha
 have hp:0<a:=by omega
 refine⟨hp,hu a hp a1, ?_⟩
 rw[<- aHS hu a1 (by omega) i0];exact ha
theorem aDU (hu:iB ns) (hi:Bw ns i i=true):iB (oU ns i ns.length).1:=by
 intro m m0 m1;obtain⟨a,a0,a1,ha,rfl⟩:=Qb ns i ns.length m (by omega) m1
 have HL:a≠i:=by rintro rfl;rw[B9 hu hi] at m0;omega
 obtain⟨_,⟨u0,u1⟩,Zp⟩:=aMi hu ha HL
 rw[(PH hu ha).2.2];simp only[if_neg HL];exact⟨(PH hu Zp).1,B8 hu u1 Zp ha⟩
end Go.Ab.Tryz
end
namespace Go.Ab.Tryz
open Classical Go.Proofs Go.Ab
structure Vld (ns:List Node):Prop where
 J4:0<ns.length
 aYB:ns.length<=4096
 PI:(nd ns 0).up=-1
 up:iB ns
 par:∀i:Int,0<i->i<ns.length->(nd ns i).block.parent=(nd ns (nd ns i).up).block.root
 slot:∀i:Int,0<i->i<ns.length->(nd ns (nd ns i).up).block.slot<(nd ns i).block.slot
 roots:∀i j:Int,0<=i->i<j->j<ns.length->(nd ns i).block.root≠(nd ns j).block.root
 st:∀i:Int,0<=i->i<ns.length->WV (nd ns i).status=true
end Go.Ab.Tryz
namespace Go.Ab.Tryz
open Classical Go.Proofs Go.Ab
end Go.Ab.Tryz
namespace Go.Ab.Tryz
open Classical Go.Proofs Go.Ab
noncomputable def Zq (st:St) (e:Option jC) (o:Nat):Option AV :=
 match e with
 | some (.cells cs)=>(bK (cs.map (pN st))).map fun ds=>.ip ds o
 | _=>none
theorem HM (st:St) (f s g o:Nat):eW st (.zC f [.ptr s g o])=(Zq st (st.heap s g) o).map fun y=>.zC f [y]:=by
 have hn:¬Flat (.zC f [.ptr s g o]):=by intro h;cases h with|zC _ _ h=>exact yU s g o (h _ (by simp))
 unfold eW Zq;rw[if_neg hn];simp only[List.map_cons,List.map_nil];unfold cC;rw[if_neg (yU s g o)];simp only
 cases st.heap s g with
 | none=>rfl
 | some e=>cases e with
   | cells cs =>
     simp only
     cases bK (cs.map (pN st))<;>rfl
   | _=>rfl
theorem WZ (st:St) {cs:List AV} (h:∀c∈cs,Flat c) (o:Nat):Zq st (some (.cells cs)) o=some (.ip cs o):=by
 unfold Zq;simp only[Vu h,Option.map_some]
theorem XA (st:St) (r:cJ) (o:Nat):Zq st (some (.cells (aX r))) o=some (.ip (aX r) o):=WZ st (dH r) o
theorem aRR (n:Node) (r:cJ):aC Tryz.prog 151 [.agg (eZ n),.ip (aX r) 0]=some (.v (.bool (decide (n.block.root=r)))):=by
 rw[cL Tryz.func151 rfl aMj rfl];simp only[ZZ,seval];exact bT rfl (by simp only[EV,seval]) (.v _)
theorem aDV (r:cJ):Flat (.ip (aX r) 0):=.ip _ _ (dH r)
theorem aMk (n:Node) (r:cJ) (st:St) (d:Option Nat):aN (aC Tryz.prog) 151 ([.agg (eZ n)]++[.ip (aX r) 0]) st d=some { dst:=d,val:=.v (.bool (decide (n.block.root=r)))}:=bL (bH (.agg _ (Nt n)) (aDV r)) (aRR n r) (.v _)
theorem aRS (ns:List Node) (hn:(ns.length:Int)<1000000) (r:cJ):aC Tryz.prog 150 [.sl ns.length (cD ns),.zC 151 [.ip (aX r) 0]]=some (.v (.int .i64 (aP ns r))):=by
 rw[cL Tryz.func150 rfl aMl rfl];simp only[ZZ,seval];refine lP (fun n st=>∃i:Int,(st.env 0=.sl ns.length (cD ns)/\st.env 1=.zC 151 [.ip (aX r) 0]/\st.env 7=.v (.int .i64 ns.length)/\st.env 8=.v (.int .i64 i))/\0<=i/\i<=ns.length/\n=(ns.length-i).toNat/\∀j,0<=j->j<i->(nd ns j).block.root≠r)
  (fun e st=>(e=.ret/\st.env 4=.v (.int .i64 (aP ns r)))\/(e=.exit 0/\aP ns r=-1)) ns.length ?step ?start ?rest
 case step =>
  rintro n st ⟨i,hI,i0,i1,Kk,hb⟩
  by_cases aZ:i<ns.length
  ·have hw:IntKind.i64.wrap (i+1)=i+1:=Im _ (by omega) (by omega)
   by_cases hr:(nd ns i).block.root=r
   ·have hd:decide ((nd ns i).block.root=r)=true:=decide_eq_true hr
    apply oT (.ret)
    ·simp only[ZZ,seval,hI,aZ,i0,aMk,hd];rfl
    ·exact .inl ⟨rfl,by simp only[EV,seval,PJ i0 aZ hr hb]⟩
   ·have hd:decide ((nd ns i).block.root=r)=false:=decide_eq_false hr
    apply oN ((ns.length-(i+1)).toNat)
    ·simp only[ZZ,seval,hI,aZ,i0,aMk,hd,hw];rfl
    ·exact⟨i+1,by simp only[EV,seval,hI],by omega,by omega,rfl,fun j j0 j1=>by
     rcases Int.lt_or_eq_of_le (show j<=i by omega) with h|rfl
     ·exact hb j j0 h
     ·exact hr⟩
  ·apply oT (.exit 0)
   ·simp only[ZZ,seval,hI,aZ,i0];rfl
   ·exact .inr ⟨rfl,Zr fun j j0 j1=>hb j j0 (by omega)⟩
 case start=>exact⟨0,(by simp only[EV,seval]),by omega,by omega,by omega,fun j _ _=>by omega⟩
 case rest =>
  rintro e st (⟨rfl,h⟩|⟨rfl,h⟩)
  ·simp only[ZZ,seval];exact bT rfl h (.v _)
  ·simp only[ZZ,seval];exact bT rfl (by simp only[EV,seval,h]) (.v _)
theorem aRT (args:List AV) (st:St) (d:Option Nat):aN (aC Tryz.prog) 150 args st d=xF (aC Tryz.prog) 150 (bK (args.map (eW st))) (decide (∀x∈args,Flat x)) st d:=kJ _ _ _ _ _
theorem aRU (ns:List Node) (hn:(ns.length:Int)<1000000) (r:cJ) (fl:Bool) (st:St) (d:Option Nat):xF (aC Tryz.prog) 150 (some [.sl ns.length (cD ns),.zC 151 [.ip (aX r) 0]]) fl st d=some { dst:=d,val:=.v (.int .i64 (aP ns r))}:=Zs (aRS ns hn r)
theorem Y6 (st:St) (n:Nat) (l:List Node):eW st (.sl n (cD l))=some (.sl n (cD l)):=dQ (.sl _ _ (kE l))
theorem c89 (ns:List Node) (r:cJ) (hn:(ns.length:Int)<1000000):aC Tryz.prog 89 [.agg (cU ⟨ns⟩),.agg (aX r)]=some (.v (.int .i64 (aP ns r))):=by
 rw[cL Tryz.func89 rfl aRV rfl];simp only[ZZ,seval,aRT,HM,XA,Y6,aRU,hn];exact bT rfl (by simp only[EV,seval]) (.v _)
theorem k89 (ns:List Node) (r:cJ) (hn:(ns.length:Int)<1000000) (st:St) (d:Option Nat):aN (aC Tryz.prog) 89 [.agg (cU ⟨ns⟩),.agg (aX r)] st d=some { dst:=d,val:=.v (.int .i64 (aP ns r))}:=bL (bH (nC _) (qS _)) (c89 ns r hn) (.v _)
end Go.Ab.Tryz
namespace Go.Ab.Tryz
open Classical Go.Proofs Go.Ab
end Go.Ab.Tryz
namespace Go.Ab.Tryz
open Classical Go.Proofs Go.Ab
noncomputable def aHW (l:List Int):AV:=if l=[] then .v (.slice none 0 0) else .uniq 3 1 l.length (aI l)
theorem Zt:aHW []=.v (.slice none 0 0):=if_pos rfl
theorem C0 {l:List Int} (h:l≠[]):aHW l=.uniq 3 1 l.length (aI l):=if_neg h
def Vv (ns:List Node) (i:Int):Nat->List Int
 | 0=>[]
 | k+1=>if (nd ns k).up=i then Vv ns i k++[(k:Int)] else Vv ns i k
theorem Yi (ns:List Node) (i:Int):∀k,(Vv ns i k).length<=k
 | 0=>Nat.le_refl _
 | k+1=>by
   have:=Yi ns i k
   simp only[Vv];split
   ·simp;omega
   ·omega
theorem PK {ns:List Node} {i:Int}:∀k:Nat,(∀j:Int,0<=j->j<k->(nd ns j).up≠i)->Vv ns i k=[]
 | 0,_=>rfl
 | k+1,h=>by
   simp only[Vv];rw[if_neg (h k (by omega) (by omega))]
   exact PK k fun j j0 j1=>h j j0 (by omega)
theorem aMn {ns:List Node} (hu:iB ns) (hr:(nd ns 0).up=-1) {j:Int} (j0:0<=j) (j1:j<ns.length):(nd ns j).up<ns.length:=by
 by_cases h:j=0
 ·subst h;omega
 ·have:=hu j (by omega) j1;omega
def xG (ns:List Node) (i:Int):List Int:=if i<0 then [] else Vv ns i ns.length
theorem PL {ns:List Node} (hu:iB ns) (hr:(nd ns 0).up=-1) {i:Int} (h:¬(0<=i/\i<ns.length)):xG ns i=[]:=by
 unfold xG;split
 ·rfl
 ·exact PK _ fun j j0 j1=>by have:=aMn hu hr j0 j1;omega
theorem aMo (ns:List Node) (hu:iB ns) (hr:(nd ns 0).up=-1) (hn:(ns.length:Int)<1000000) (i:Int):aC Tryz.prog 245 [.agg (cU ⟨ns⟩),.v (.int .i64 i)]=some (aHW (xG ns i)):=by
 rw[cL Tryz.func245 rfl aMp rfl];by_cases hm:0<=i/\i<ns.length
 ·have hd:(decide (0<=i) && decide (i<ns.length))=true:=by simp[hm.1,hm.2]
  rw[show xG ns i=Vv ns i ns.length from if_neg (by omega)]
  simp only[ZZ,seval];refine lP (fun n st=>∃k:Nat,(st.env 1=.v (.int .i64 i)/\st.env 2=.ptr 2 0 0/\st.heap 2 0=some (.cells (cU ⟨ns⟩))/\st.env 6=.v (.int .i64 k)) /\
   ((Vv ns i k=[]/\st.env 5=.v (.slice none 0 0))\/(Vv ns i k≠[]/\∃g,st.env 5=.own 30 g/\g<st.aK 30/\st.heap 30 g=some (.row 3 1 (Vv ns i k).length (aI (Vv ns i k)))))/\k<=ns.length/\n=ns.length-k)
   (fun e st=>e=.exit 0/\((Vv ns i ns.length=[]/\st.env 5=.v (.slice none 0 0))\/(Vv ns i ns.length≠[]/\∃g,st.env 5=.own 30 g/\g<st.aK 30/\st.heap 30 g=some (.row 3 1 (Vv ns i ns.length).length (aI (Vv ns i ns.length)))))) ns.length ?step ?start ?rest
  case step =>
   rintro n st ⟨k,hI,h5,hk,Kk⟩
   have hl:=Yi ns i k
   have Hz:((Vv ns i k).length:Int)<1000000:=by omega
   by_cases aZ:(k:Int)<ns.length
   ·have hw:IntKind.i64.wrap ((k:Int)+1)=((k+1:Nat):Int):=by rw[Im _ (by omega) (by omega)];omega
    have q0:(0:Int)<=k:=by omega
    by_cases hu:(nd ns k).up=i
    ·have hq:((nd ns k).up == i)=true:=by simp[hu]
     have hs:Vv ns i (k+1)=Vv ns i k++[(k:Int)]:=by simp only[Vv,hu,if_true]
     rcases h5 with ⟨hy,h5⟩|⟨hy,g,h5⟩
     ·rw[hy] at hs;apply oN (ns.length-(k+1))
      ·simp only[ZZ,seval,hI,h5,aZ,hw,q0,hq,WC,hd];rfl
      ·exact⟨k+1,by simp only[EV,seval,hI],.inr ⟨by rw[hs];simp,_,by simp only[EV,seval]<;>rfl,(by simp only[EV,seval]<;>omega),(by rw[hs];simp only[EV,seval]<;>rfl)⟩,by omega,rfl⟩
     ·apply oN (ns.length-(k+1))
      ·simp only[ZZ,seval,hI,h5,Hz,aZ,hw,q0,hq,WC,hd];rfl
      ·exact⟨k+1,by simp only[EV,seval,hI],.inr ⟨by rw[hs];simp,_,by simp only[EV,seval]<;>rfl,(by simp only[EV,seval]<;>omega),(by rw[hs];simp only[EV,seval]<;>rfl)⟩,by omega,rfl⟩
    ·have hq:((nd ns k).up == i)=false:=by simp[hu]
     have hs:Vv ns i (k+1)=Vv ns i k:=by simp only[Vv,hu,if_false]
     apply oN (ns.length-(k+1))
     ·simp only[ZZ,seval,hI,aZ,hw,q0,hq,WC,hd];rfl
     ·exact⟨k+1,by simp only[EV,seval,hI],by rw[hs];simpa only[EV,seval] using h5,by omega,rfl⟩
   ·obtain rfl:k=ns.length:=by omega
    apply oT (.exit 0)
    ·simp only[ZZ,seval,hI,aZ];rfl
    ·exact⟨rfl,by simpa only[EV,seval] using h5⟩
  case start=>exact⟨0,(by simp only[EV,seval]),.inl ⟨rfl,(by simp only[EV,seval])⟩,by omega,rfl⟩
  case rest =>
   rintro e st ⟨rfl,⟨hy,h5⟩|⟨hy,g,h5,hg,Bj⟩⟩
   ·rw[hy,Zt];simp only[ZZ,seval,h5];exact bT rfl (by simp only[EV,seval]) (.v _)
   ·rw[C0 hy];simp only[ZZ,seval,h5,Bj];exact tH rfl (by simp only[EV,seval];rfl) (by simp only[EV,seval,Bj]) (fS _)
 ·have hd:(decide (0<=i) && decide (i<ns.length))=false:=by
   rw[<- Bool.not_eq_true];simpa using hm
  rw[PL hu hr hm,Zt];by_cases h0:(0:Int)<ns.length
  ·simp only[ZZ,seval,Io,WC,hd,h0];exact bT rfl (by simp only[EV,seval]) (.v _)
  ·simp only[ZZ,seval,Io,WC,hd,h0];exact bT rfl (by simp only[EV,seval]) (.v _)
theorem aMq (ns:List Node) (hu:iB ns) (hr:(nd ns 0).up=-1) (hn:(ns.length:Int)<1000000) (i:Int) (h:xG ns i≠[]) (st:St) (d:Nat):aN (aC Tryz.prog) 245 [.agg (cU ⟨ns⟩),.v (.int .i64 i)] st (some d)=some { dst:=some d,val:=.own d (st.aK d),new:=some (d,[.row 3 1 (xG ns i).length (aI (xG ns i))])}:=by
 have hc:=aMo ns hu hr hn i
 rw[C0 h] at hc;exact jD (bH (nC _) (.v _)) hc
theorem aGz (ns:List Node) (hu:iB ns) (hr:(nd ns 0).up=-1) (hn:(ns.length:Int)<1000000) (i:Int) (h:xG ns i=[]) (st:St) (d:Option Nat):aN (aC Tryz.prog) 245 [.agg (cU ⟨ns⟩),.v (.int .i64 i)] st d=some { dst:=d,val:=.v (.slice none 0 0)}:=by
 have hc:=aMo ns hu hr hn i
 rw[h,Zt] at hc;exact bL (bH (nC _) (.v _)) hc (.v _)
end Go.Ab.Tryz
namespace Go.Ab.Tryz
open Classical Go.Proofs Go.Ab
end Go.Ab.Tryz
namespace Go.Ab.Tryz
open Classical Go.Proofs Go.Ab
theorem Qc [Ext] {P:Program} {f:Nat} {fn:Func} {st:St} {e:Ex} {r:ResultVar} {x y:AV} (hk:Ext.pY f=true) (he:e=.ret\/e=.normal) (hr:fn.results.toList=[r]) (h1:bX P st r=some x) (hn:(jJ x).Nodup) (hy:yI st x=some y):Bk P f fn (e,st)=some y:=by
 have h:iH P f fn st=some y:=by
  unfold iH;rw[hk,if_pos rfl];unfold Fq;rw[hr];simp only[wU,h1,cA,if_pos hn,hy]
 rcases he with rfl|rfl<;>exact h
theorem PM [Ext] {P:Program} {f:Nat} {fn:Func} {st:St} {e:Ex} {r1 r2:ResultVar} {x1 x2 y:AV} (hk:Ext.pY f=true) (he:e=.ret\/e=.normal) (hr:fn.results.toList=[r1,r2]) (h1:bX P st r1=some x1) (h2:bX P st r2=some x2)
 (hn:(jJ (.dX [x1,x2])).Nodup) (hy:yI st (.dX [x1,x2])=some y):Bk P f fn (e,st)=some y:=by
 have h:iH P f fn st=some y:=by
  unfold iH;rw[hk,if_pos rfl];unfold Fq;rw[hr];simp only[List.map_cons,List.map_nil,wU,h1,h2,cA,bK,Option.map_some,if_pos hn,hy]
 rcases he with rfl|rfl<;>exact h
theorem HN {st:St} {s g e sz n:Nat} {cs:List AV} (h:st.heap s g=some (.row e sz n cs)) (hf:∀c∈cs,Flat c):qB st (.agg [.own s g])=some (.agg [.uniq e sz n cs]):=by
 simp only[qB,List.map_cons,List.map_nil,jU,if_neg (nD s g),h,if_pos hf,bK,Option.map_some]
theorem J5 (st:St):qB st (.agg [.v (.slice none 0 0)])=some (.agg [.v (.slice none 0 0)]):=by
 simp only[qB,List.map_cons,List.map_nil,jU,if_pos (Flat.v _),bK,Option.map_some]
theorem C1 (st:St) (x:Value):qB st (.v x)=some (.v x):=by simp only[qB,jU,if_pos (Flat.v x)]
theorem HO {st:St} {a b x y:AV} (h1:qB st a=some x) (h2:qB st b=some y):yI st (.dX [a,b])=some (.dX [x,y]):=by
 simp only[yI,List.map_cons,List.map_nil,h1,h2,bK,Option.map_some]
theorem J6 {st:St} {cs:List AV} {x:AV} (h1:qB st (.agg cs)=some x):yI st (.agg cs)=some x:=h1
theorem Mp (e sz n:Nat) (cs:List AV):¬Flat (.uniq e sz n cs):=by intro h;cases h
theorem J7 {e sz n:Nat} {cs:List AV} {st:St} {d:Nat}:iG (.agg [.uniq e sz n cs]) st (some d)=some { dst:=some d,val:=.agg [.own d (st.aK d)],new:=some (d,[.row e sz n cs])}:=by
 have hn:¬Flat (.agg [.uniq e sz n cs]):=by intro h;cases h with|agg _ h=>exact Mp e sz n cs (h _ (by simp))
 unfold iG;rw[if_neg hn];rfl
theorem J8 {e sz n:Nat} {cs:List AV} {x:Value} {st:St} {d:Nat}:iG (.dX [.agg [.uniq e sz n cs],.v x]) st (some d)=some { dst:=some d,val:=.dX [.agg [.own d (st.aK d)],.v x],new:=some (d,[.row e sz n cs])}:=by
 have hn:¬Flat (.dX [.agg [.uniq e sz n cs],.v x]):=by
  intro h;cases h with
  | dX _ h =>
    have:=h (.agg [.uniq e sz n cs]) (by simp)
    cases this with
    | agg _ h=>exact Mp e sz n cs (h _ (by simp))
 unfold iG;rw[if_neg hn];rfl
theorem aDW {call:Nat->List AV->Option AV} {g:Nat} {args:List AV} {d e sz n:Nat} {cs:List AV} {st:St} (hf:∀x∈args,Flat x) (h:call g args=some (.agg [.uniq e sz n cs])):aN call g args st (some d)=some { dst:=some d,val:=.agg [.own d (st.aK d)],new:=some (d,[.row e sz n cs])}:=by
 unfold aN;rw[if_pos hf,h];exact J7
theorem aMr {call:Nat->List AV->Option AV} {g:Nat} {xs:List AV} {d e sz n:Nat} {cs:List AV} {x:Value} {fl:Bool} {st:St} (h:call g xs=some (.dX [.agg [.uniq e sz n cs],.v x])) (hm:∀c∈cs,eE c):xF call g (some xs) fl st (some d)=some { dst:=some d,val:=.dX [.agg [.own d (st.aK d)],.v x],new:=some (d,[.row e sz n cs])}:=by
 have WD:Vp (.dX [.agg [.uniq e sz n cs],.v x]):=by
  intro y hy;rcases List.mem_cons.1 hy with rfl|hy
  ·intro c hc;simp at hc
   subst hc;exact hm
  ·simp at hy
   subst hy;exact .v _
 unfold xF;simp only[cI,h,WD,or_true,if_true];exact J8
theorem aMs {call:Nat->List AV->Option AV} {g:Nat} {xs:List AV} {x y:Value} {fl:Bool} {st:St} {d:Option Nat} (h:call g xs=some (.dX [.agg [.v y],.v x])):xF call g (some xs) fl st d=some { dst:=d,val:=.dX [.agg [.v y],.v x]}:=by
 have hf:∀z∈[AV.agg [.v y],.v x],Flat z:=bH (.agg _ (cT (.v _))) (.v _)
 refine XB h ?_ (.dX _ hf)
 intro z hz;rcases List.mem_cons.1 hz with rfl|hz
 ·intro c hc;simp at hc;subst hc;exact .v _
 ·simp at hz;subst hz;exact .v _
theorem C2 {z:Nat} {α:Type} (f:α->List AV) (hf:∀x,(f x).length=z):∀(l:List α) (i o:Nat) (hi:i<l.length),o<z->(l.flatMap f)[i * z+o]? = (f l[i])[o]?
 | [],i,o,hi,_=>by simp at hi
 | a :: l,0,o,_,ho=>by
   simp only[List.flatMap_cons,Nat.zero_mul,Nat.zero_add,List.getElem_cons_zero];rw[List.getElem?_append_left (by rw[hf];exact ho)]
 | a :: l,i+1,o,hi,ho=>by
   have ih:=C2 f hf l i o (by simpa using hi) ho
   simp only[List.flatMap_cons,List.getElem_cons_succ];rw[List.getElem?_append_right (by rw[hf,Nat.succ_mul];omega),hf,show (i+1) * z+o-z=i * z+o by rw[Nat.succ_mul];omega]
   exact ih
theorem C3 {z:Nat} {α:Type} (f:α->List AV) (hf:∀x,(f x).length=z) (o e:Nat) (xs:List AV) (hoe:o<=e) (he:e<=z):∀(l:List α) (i:Nat) (hi:i<l.length) (y:α),dG (f l[i]) o xs e=f y->dG (l.flatMap f) (i * z+o) xs (i * z+e)=(l.set i y).flatMap f
 | [],i,hi,_,_=>by simp at hi
 | a :: l,0,_,y,h=>by
   simp only[List.flatMap_cons,Nat.zero_mul,Nat.zero_add,List.set_cons_zero,List.getElem_cons_zero] at h ⊢;rw[<- h];unfold dG;rw[List.take_append_of_le_length (by rw[hf];omega),List.drop_append_of_le_length (by rw[hf];omega)]
   simp
 | a :: l,i+1,hi,y,h=>by
   have ih:=C3 f hf o e xs hoe he l i (by simpa using hi) y (by simpa using h)
   simp only[List.flatMap_cons,List.set_cons_succ];rw[<- ih];unfold dG;have h1:(i+1) * z+o=z+(i * z+o):=by rw[Nat.succ_mul];omega
   have h2:(i+1) * z+e=z+(i * z+e):=by rw[Nat.succ_mul];omega
   rw[h1,h2,List.take_append,List.drop_append,List.take_of_length_le (by rw[hf];omega),List.drop_of_length_le (by rw[hf];omega),hf,Nat.add_sub_cancel_left,Nat.add_sub_cancel_left]
   simp
theorem J9 {l:List Bool} {xs:List AV} (h:gU l xs xs):∀c∈xs,eE c:=by
 obtain⟨us,vs,rfl,_,_⟩:=Dl _ _ _ h
 intro c hc;obtain⟨x,_,rfl⟩:=List.mem_map.1 hc
 exact .v _
theorem Zu (l:List Node):∀c∈cD l,eE c:=fun c hc=>by
 obtain⟨n,_,h⟩:=List.mem_flatMap.1 hc
 exact J9 (Zv n n) c h
theorem K0 {l:List Node} {i:Int} (h0:0<=i) (h1:i<l.length) (o:Nat) (ho:o<240):(cD l)[i.toNat * 240+o]? = (eZ (nd l i))[o]?:=by
 obtain⟨h,e⟩:=Nu h0 h1
 rw[e];exact C2 eZ vT l i.toNat o h ho
theorem K1 {l:List Node} {i:Int} (h0:0<=i) (h1:i<l.length) {o e:Nat} {xs:List AV} (hoe:o<=e) (he:e<=240) {y:Node} (h:dG (eZ (nd l i)) o xs e=eZ y):dG (cD l) (i.toNat * 240+o) xs (i.toNat * 240+e)=cD (l.set i.toNat y):=by
 obtain⟨hi,e'⟩:=Nu h0 h1
 rw[e'] at h;exact C3 eZ vT o e xs hoe he l i.toNat hi y h
def Zw (n:Node) (s:Int):Node:={ n with status:=s }
def setAt (ns:List Node) (i s:Int):List Node:=ns.set i.toNat (Zw (nd ns i) s)
theorem XC {l:List Node} {i s:Int} (h0:0<=i) (h1:i<l.length):dG (cD l) (i.toNat * 240+239) [.v (.int .i64 s)] (i.toNat * 240+240)=cD (setAt l i s) :=
 K1 h0 h1 (by decide) (by decide) (Iq (nd l i) _)
theorem XD {l:List Node} {i:Int} (h0:0<=i) (h1:i<l.length):(cD l)[i.toNat * 240+239]? = some (.v (.int .i64 (nd l i).status)):=by
 rw[K0 h0 h1 239 (by decide)]
 exact Hc (nd l i)
theorem Dq (ns:List Node) (i s:Int):(setAt ns i s).length=ns.length:=by simp[setAt]
def HP (to never:Int):List Int->List Node->Option (List Node)
 | [],ns=>some ns
 | i :: l,ns=>if (nd ns i).status=never then none else HP to never l (setAt ns i to)
theorem JT {to never:Int}:∀(l:List Int) (ns r:List Node),HP to never l ns=some r->r.length=ns.length
 | [],ns,r,h=>by simp only[HP,Option.some.injEq] at h;rw[h]
 | i :: l,ns,r,h=>by
   simp only[HP] at h;split at h
   ·cases h
   ·rw[JT l _ r h,Dq]
theorem XE {l:List Node} (h:0<l.length):cD l≠[]:=by
 intro he;have:=congrArg List.length he
 rw[Nv] at this;simp only[List.length_nil] at this;omega
theorem aRX (l:List Node) (h0:0<l.length) (hn:(l.length:Int)<1000000):aC Tryz.prog 192 [.sl l.length (cD l)]=some (.uniq 76 240 l.length (cD l)):=by
 rw[cL Tryz.func192 rfl aMt rfl];have gI:=XE h0
 have ha:=fun s g=>Fy (e:=76) (sz:=240) (by_:=352) (s:=s) (g:=g) (n:=l.length) (cs:=cD l) (by simp) (by omega) (by unfold maxLen;omega)
 simp only[ZZ,seval,gI,ha];exact tH rfl (by simp only[EV,seval];rfl) (by simp only[EV,seval]) (kE _)
theorem aRY (l:List Node) (h0:0<l.length) (hn:(l.length:Int)<1000000) (st:St) (d:Nat):aN (aC Tryz.prog) 192 [.sl l.length (cD l)] st (some d)=some { dst:=some d,val:=.own d (st.aK d),new:=some (d,[.row 76 240 l.length (cD l)])}:=jD (cT (.sl _ _ (kE l))) (aRX l h0 hn)
theorem aRZ (ns:List Node) (h0:0<ns.length) (hn:(ns.length:Int)<1000000):aC Tryz.prog 165 [.agg (cU ⟨ns⟩)]=some (.agg [.uniq 76 240 ns.length (cD ns)]):=by
 rw[cL Tryz.func165 rfl aMu rfl];have hK:=aRY ns h0 hn
 simp only[ZZ,seval,hK];refine Qc rfl (.inl rfl) rfl (x:=.agg [.own 5 0]) (by simp only[bX,ZZ,seval]) (by simp[jJ,iV,gD]) (J6 (HN (by simp only[EV,seval]) (kE _)))
theorem aR0 (ns:List Node) (h0:0<ns.length) (hn:(ns.length:Int)<1000000) (st:St) (d:Nat):aN (aC Tryz.prog) 165 [.agg (cU ⟨ns⟩)] st (some d)=some { dst:=some d,val:=.agg [.own d (st.aK d)],new:=some (d,[.row 76 240 ns.length (cD ns)])}:=aDW (cT (nC _)) (aRZ ns h0 hn)
theorem aDX {l:List Int} {k:Nat} (h:k<l.length):l.drop k=it l k :: l.drop (k+1):=by
 rw[List.drop_eq_getElem_cons h];simp[it,h]
theorem aMv (s g:Nat) (x:Value):(jJ (.dX [.agg [.own s g],.v x])).Nodup:=by simp[jJ,iV,gD]
theorem aMw (y x:Value):(jJ (.dX [.agg [.v y],.v x])).Nodup:=by simp[jJ,iV,gD]
def EW (e:Int):AV:=.dX [.agg [.v (.slice none 0 0)],.v (.int .i64 e)]
def chS (o:Option (List Node)):AV :=
 match o with
 | none=>.dX [.agg [.v (.slice none 0 0)],.v (.bool false)]
 | some r=>.dX [.agg [.uniq 76 240 r.length (cD r)],.v (.bool true)]
theorem aMx (ns:List Node) (h0:0<ns.length) (hn:(ns.length:Int)<1000000) (l:List Int) (hl:(l.length:Int)<1000000) (hm:∀x∈l,0<=x/\x<ns.length) (to never:Int) :
 aC Tryz.prog 247 [.agg (cU ⟨ns⟩),.sl l.length (aI l),.v (.int .i64 to),.v (.int .i64 never)]=some (chS (HP to never l ns)):=by
 rw[cL Tryz.func247 rfl aMy rfl];simp only[ZZ,seval,hn];refine lP (fun n st=>∃(k:Nat) (cur:List Node),(st.env 1=.sl l.length (aI l)/\st.env 2=.v (.int .i64 to)/\st.env 3=.v (.int .i64 never)/\st.env 8=.ptr 8 0 0/\st.heap 8 0=some (.cells [.v (.slice none 0 0)])/\st.env 10=.ptr 10 0 0/\st.heap 10 0=some (.cells [.own 14 0])/\st.heap 14 0=some (.row 76 240 cur.length (cD cur))/\st.env 11=.v (.int .i64 k))/\cur.length=ns.length/\HP to never l ns=HP to never (l.drop k) cur/\k<=l.length/\n=l.length-k)
  (fun e st=>(e=.ret/\HP to never l ns=none/\st.env 8=.ptr 8 0 0/\st.heap 8 0=some (.cells [.v (.slice none 0 0)])/\st.env 9=.v (.bool false))\/(e=.exit 0/\∃r,HP to never l ns=some r/\st.env 8=.ptr 8 0 0/\st.heap 8 0=some (.cells [.v (.slice none 0 0)])/\st.env 10=.ptr 10 0 0/\st.heap 10 0=some (.cells [.own 14 0])/\st.heap 14 0=some (.row 76 240 r.length (cD r)))) l.length ?step ?start ?rest
 case step =>
  rintro n st ⟨k,cur,hI,Bl,hc,hk,Kk⟩
  by_cases aZ:(k:Int)<l.length
  ·have q0:(0:Int)<=k:=by omega
   have hw:IntKind.i64.wrap ((k:Int)+1)=((k+1:Nat):Int):=by rw[Im _ (by omega) (by omega)];omega
   obtain⟨x0,x1⟩:=hm _ (Fu q0 aZ)
   have x2:it l k<cur.length:=by omega
   rw[aDX (by omega)] at hc
   simp only[HP] at hc;have hg:=XD x0 x2
   by_cases hs:(nd cur (it l k)).status=never
   ·rw[if_pos hs] at hc;have hb:((nd cur (it l k)).status == never)=true:=by simp[hs]
    apply oT (.ret)
    ·simp only[ZZ,seval,hI,aZ,q0,x0,x2,hg,hb];rfl
    ·exact .inl ⟨rfl,hc,by simp only[EV,seval,hI],by simp only[EV,seval,hI],by simp only[EV,seval,hI]⟩
   ·rw[if_neg hs] at hc;have hb:((nd cur (it l k)).status == never)=false:=by simp[hs]
    have hu:=XC (s:=to) x0 x2
    have hle:(it l k).toNat * 240+239+1<=cur.length * 240:=by
     have:((it l k).toNat+1) * 240<=cur.length * 240:=Nat.mul_le_mul_right _ (by omega)
     omega
    have hle2:(it l k).toNat * 240+240<=cur.length * 240:=by omega
    apply oN (l.length-(k+1))
    ·simp only[ZZ,seval,hI,aZ,q0,x0,x2,hg,hb,hu,hle,hle2,hw];rfl
    ·exact⟨k+1,setAt cur (it l k) to,by simp only[EV,seval,hI,Dq],by rw[Dq];exact Bl,hc,by omega,rfl⟩
  ·obtain rfl:k=l.length:=by omega
   rw[List.drop_length] at hc;apply oT (.exit 0)
   ·simp only[ZZ,seval,hI,aZ];rfl
   ·exact .inr ⟨rfl,cur,hc,by simp only[EV,seval,hI]⟩
 case start=>exact⟨0,ns,by simp only[EV,seval]<;>rfl,rfl,rfl,by omega,by omega⟩
 case rest =>
  rintro e st (⟨rfl,hc,hI⟩|⟨rfl,r,hc,hI⟩)
  ·rw[hc];simp only[ZZ,seval];exact PM rfl (.inl rfl) rfl (x1:=.agg [.v (.slice none 0 0)]) (x2:=.v (.bool false)) (by simp only[bX,ZZ,seval,hI]) (by simp only[bX,ZZ,seval,hI]) (aMw _ _) (HO (J5 _) (C1 _ _))
  ·rw[hc];simp only[ZZ,seval,hI];exact PM rfl (.inl rfl) rfl (x1:=.agg [.own 14 0]) (x2:=.v (.bool true)) (by simp only[bX,ZZ,seval,hI]) (by simp only[bX,ZZ,seval,hI]) (aMv _ _ _) (HO (HN (by simp only[EV,seval,hI]) (kE _)) (C1 _ _))
theorem JU {ns:List Node} (hu:iB ns) {c:Int} (c0:0<=c) (c1:c<ns.length):0<(path ns c).length:=List.length_pos_iff.2 fun h=>by
 have:=zG hu c0 c1
 rw[h] at this;cases this
theorem K2 {ns:List Node} (hu:iB ns) {c:Int} (c0:0<=c) (c1:c<ns.length):it (path ns c) ((path ns c).length-1:Int)=c:=by
 by_cases h:c=0
 ·subst h;rw[rV (by omega)]
  rfl
 ·rw[rW hu (by omega) c1]
  exact Dp (by simp)
theorem c64 (ns:List Node) (hu:iB ns) (hn:(ns.length:Int)<1000000) (i:Int):aC Tryz.prog 64 [.agg (cU ⟨ns⟩),.v (.int .i64 i)]=some (if Ho ns i ns.length=[] then .v (.slice none 0 0) else .uniq 3 1 (Ho ns i ns.length).length (aI (Ho ns i ns.length))):=by
 rw[cL Tryz.func64 rfl aR1 rfl];have h41:=Px ns hu hn
 simp only[ZZ,seval];refine lP (fun n st=>∃k:Nat,st.env 1=.v (.int .i64 i)/\st.env 2=.ptr 2 0 0/\st.heap 2 0=some (.cells (cU ⟨ns⟩))/\st.env 6=.v (.int .i64 k) /\
  ((Ho ns i k=[]/\st.env 5=.v (.slice none 0 0))\/(Ho ns i k≠[]/\∃g,st.env 5=.own 21 g/\g<st.aK 21/\st.heap 21 g=some (.row 3 1 (Ho ns i k).length (aI (Ho ns i k)))))/\k<=ns.length/\n=ns.length-k)
  (fun e st=>e=.exit 0/\((Ho ns i ns.length=[]/\st.env 5=.v (.slice none 0 0))\/(Ho ns i ns.length≠[]/\∃g,st.env 5=.own 21 g/\g<st.aK 21/\st.heap 21 g=some (.row 3 1 (Ho ns i ns.length).length (aI (Ho ns i ns.length)))))) ns.length ?step ?start ?rest
 case step =>
  rintro n st ⟨k,h1,h2,vG,h6,h5,hk,Kk⟩
  have JV:=Yh ns i k
  have hdl':((Ho ns i k).length:Int)<1000000:=by omega
  by_cases aZ:(k:Int)<ns.length
  ·have hw:IntKind.i64.wrap ((k:Int)+1)=((k+1:Nat):Int):=by rw[Im _ (by omega) (by omega)];omega
   cases ha:Bw ns i k
   ·have hs:Ho ns i (k+1)=Ho ns i k:=by simp only[Ho,ha,Bool.false_eq_true,if_false]
    rcases h5 with ⟨hy,h5⟩|⟨hy,g,h5,hg,Bj⟩
    ·apply oN (ns.length-(k+1))
     ·simp only[ZZ,seval,h1,h2,vG,h6,h5,aZ,hw,h41,ha];rfl
     ·exact⟨k+1,by simp only[EV,seval,h1],by simp only[EV,seval,h2],by simp only[EV,seval,vG],(by simp only[EV,seval]),.inl ⟨by rw[hs];exact hy,by simp only[EV,seval,h5]⟩,by omega,rfl⟩
    ·apply oN (ns.length-(k+1))
     ·simp only[ZZ,seval,h1,h2,vG,h6,h5,Bj,aZ,hw,h41,ha];rfl
     ·exact⟨k+1,by simp only[EV,seval,h1],by simp only[EV,seval,h2],by simp only[EV,seval,vG],(by simp only[EV,seval]),.inr ⟨by rw[hs];exact hy,g,by simp only[EV,seval,h5],(by simp only[EV,seval]<;>omega),(by rw[hs];simp only[EV,seval,Bj])⟩,by omega,rfl⟩
   ·have hs:Ho ns i (k+1)=Ho ns i k++[(k:Int)]:=by simp only[Ho,ha,if_true]
    rcases h5 with ⟨hy,h5⟩|⟨hy,g,h5,hg,Bj⟩
    ·rw[hy] at hs;apply oN (ns.length-(k+1))
     ·simp only[ZZ,seval,h1,h2,vG,h6,h5,aZ,hw,h41,ha];rfl
     ·exact⟨k+1,by simp only[EV,seval,h1],by simp only[EV,seval,h2],by simp only[EV,seval,vG],(by simp only[EV,seval]),.inr ⟨by rw[hs];simp,_,by simp only[EV,seval]<;>rfl,(by simp only[EV,seval]<;>omega),(by rw[hs];simp only[EV,seval]<;>rfl)⟩,by omega,rfl⟩
    ·apply oN (ns.length-(k+1))
     ·simp only[ZZ,seval,h1,h2,vG,h6,h5,Bj,hdl',aZ,hw,h41,ha];rfl
     ·exact⟨k+1,by simp only[EV,seval,h1],by simp only[EV,seval,h2],by simp only[EV,seval,vG],(by simp only[EV,seval]),.inr ⟨by rw[hs];simp,_,by simp only[EV,seval]<;>rfl,(by simp only[EV,seval]<;>omega),(by rw[hs];simp only[EV,seval]<;>rfl)⟩,by omega,rfl⟩
  ·obtain rfl:k=ns.length:=by omega
   apply oT (.exit 0)
   ·simp only[ZZ,seval,h2,vG,h6,aZ];rfl
   ·exact⟨rfl,by simpa only[EV,seval] using h5⟩
 case start=>exact⟨0,(by simp only[EV,seval]),(by simp only[EV,seval]),(by simp only[EV,seval]),(by simp only[EV,seval]),.inl ⟨rfl,(by simp only[EV,seval])⟩,by omega,rfl⟩
 case rest =>
  rintro e st ⟨rfl,⟨hy,h5⟩|⟨hy,g,h5,hg,Bj⟩⟩
  ·rw[if_pos hy];simp only[ZZ,seval,h5];exact bT rfl (by simp only[EV,seval]) (.v _)
  ·rw[if_neg hy];simp only[ZZ,seval,h5,Bj];exact tH rfl (by simp only[EV,seval];rfl) (by simp only[EV,seval,Bj]) (fS _)
theorem k64 (ns:List Node) (hu:iB ns) (hn:(ns.length:Int)<1000000) (i:Int) (h:Ho ns i ns.length≠[]) (st:St) (d:Nat):aN (aC Tryz.prog) 64 [.agg (cU ⟨ns⟩),.v (.int .i64 i)] st (some d)=some { dst:=some d,val:=.own d (st.aK d),new:=some (d,[.row 3 1 (Ho ns i ns.length).length (aI (Ho ns i ns.length))])}:=by
 have hc:=c64 ns hu hn i
 rw[if_neg h] at hc;exact jD (bH (nC _) (.v _)) hc
end Go.Ab.Tryz
namespace Go.Ab.Tryz
open Classical Go.Proofs Go.Ab
end Go.Ab.Tryz
namespace Go.Ab.Tryz
open Classical Go.Proofs Go.Ab
theorem aDY (args:List AV) (st:St) (d:Option Nat):aN (aC Tryz.prog) 247 args st d=xF (aC Tryz.prog) 247 (bK (args.map (eW st))) (decide (∀x∈args,Flat x)) st d:=kJ _ _ _ _ _
theorem K3:Flat (.agg [.v (.slice none 0 0)]):=.agg _ (cT (.v _))
theorem vU (e:Int):Flat (EW e):=.dX _ (bH K3 (.v _))
def stA (o:Option (List Node)):AV :=
 match o with
 | none=>EW 21
 | some r=>.dX [.agg (cU ⟨r⟩),.v (.int .i64 0)]
theorem PN (o:Option (List Node)):Flat (stA o):=by
 cases o with
 | none=>exact vU _
 | some r=>exact .dX _ (bH (nC _) (.v _))
noncomputable def raO (ns:List Node) (i:Int):Option (List Node):=HP 1 2 (path ns i) ns
noncomputable def coO (ns:List Node) (i:Int):Option (List Node):=HP 2 1 (Ho ns i ns.length) ns
noncomputable def W4 (ns:List Node) (i:Int):AV:=if 0<=i/\i<ns.length then stA (raO ns i) else EW 10
noncomputable def W5 (ns:List Node) (i:Int):AV:=if 0<=i/\i<ns.length then stA (coO ns i) else EW 10
theorem Yj {ns:List Node} (hu:iB ns) {i:Int}:∀x∈path ns i,0<=x/\x<ns.length:=fun x hx=>vS hu hx
theorem C4 (ns:List Node) (i:Int):∀x∈Ho ns i ns.length,0<=x/\x<ns.length:=fun x hx=>((B7 ns i x _).1 hx).1
theorem aR3 (ns:List Node) (hu:iB ns) (hn:(ns.length:Int)<1000000) (i:Int):aC Tryz.prog 236 [.agg (cU ⟨ns⟩),.v (.int .i64 i)]=some (W4 ns i):=by
 rw[cL Tryz.func236 rfl aMz rfl];unfold W4;by_cases hm:0<=i/\i<ns.length
 ·rw[if_pos hm];have hd:(decide (0<=i) && decide (i<ns.length))=true:=by simp[hm.1,hm.2]
  have h45:=k76 ns hu hn i hm.1 hm.2
  have hpl:=Bv hu i
  have hc:=aMx ns (by omega) hn (path ns i) (by omega) (Yj hu) 1 2
  unfold raO;cases ho:HP 1 2 (path ns i) ns with
  | none =>
    rw[ho] at hc;have hK:=fun (fl:Bool) (st:St) (d:Option Nat)=>aMs (fl:=fl) (st:=st) (d:=d) hc
    simp only[ZZ,seval,WC,hd,h45,aDY,hK,eC];exact dJ rfl (by simp only[bX,ZZ,seval];rfl) (by simp only[bX,EV,seval]<;>rfl) (by simp only[EV,seval]<;>rfl) (by simp only[EV,seval]<;>rfl)
  | some r =>
    rw[ho] at hc;have hK:=fun (fl:Bool) (st:St) (d:Nat)=>aMr (fl:=fl) (st:=st) (d:=d) hc (Zu r)
    simp only[ZZ,seval,WC,hd,h45,aDY,hK,eC];exact dJ rfl (by simp only[bX,ZZ,seval];rfl) (by simp only[bX,EV,seval]<;>rfl) (by simp only[EV,seval]<;>rfl) (by simp only[EV,seval]<;>rfl)
 ·rw[if_neg hm];have hd:(decide (0<=i) && decide (i<ns.length))=false:=by rw[<- Bool.not_eq_true];simpa using hm
  simp only[ZZ,seval,WC,hd];exact dJ rfl (by simp only[bX,ZZ,seval];rfl) (by simp only[bX,EV,seval]<;>rfl) (by simp only[EV,seval]<;>rfl) (by simp only[EV,seval]<;>rfl)
theorem aR4 (ns:List Node) (hu:iB ns) (hn:(ns.length:Int)<1000000) (i:Int):aC Tryz.prog 238 [.agg (cU ⟨ns⟩),.v (.int .i64 i)]=some (W5 ns i):=by
 rw[cL Tryz.func238 rfl aMA rfl];unfold W5;by_cases hm:0<=i/\i<ns.length
 ·rw[if_pos hm];have hd:(decide (0<=i) && decide (i<ns.length))=true:=by simp[hm.1,hm.2]
  have h36:=k64 ns hu hn i (WX hu hm.1 hm.2 _ hm.2)
  have JV:=Yh ns i ns.length
  have hc:=aMx ns (by omega) hn (Ho ns i ns.length) (by omega) (C4 ns i) 2 1
  unfold coO;cases ho:HP 2 1 (Ho ns i ns.length) ns with
  | none =>
    rw[ho] at hc;have hK:=fun (fl:Bool) (st:St) (d:Option Nat)=>aMs (fl:=fl) (st:=st) (d:=d) hc
    simp only[ZZ,seval,WC,hd,h36,aDY,hK,eC];exact dJ rfl (by simp only[bX,ZZ,seval];rfl) (by simp only[bX,EV,seval]<;>rfl) (by simp only[EV,seval]<;>rfl) (by simp only[EV,seval]<;>rfl)
  | some r =>
    rw[ho] at hc;have hK:=fun (fl:Bool) (st:St) (d:Nat)=>aMr (fl:=fl) (st:=st) (d:=d) hc (Zu r)
    simp only[ZZ,seval,WC,hd,h36,aDY,hK,eC];exact dJ rfl (by simp only[bX,ZZ,seval];rfl) (by simp only[bX,EV,seval]<;>rfl) (by simp only[EV,seval]<;>rfl) (by simp only[EV,seval]<;>rfl)
 ·rw[if_neg hm];have hd:(decide (0<=i) && decide (i<ns.length))=false:=by rw[<- Bool.not_eq_true];simpa using hm
  simp only[ZZ,seval,WC,hd];exact dJ rfl (by simp only[bX,ZZ,seval];rfl) (by simp only[bX,EV,seval]<;>rfl) (by simp only[EV,seval]<;>rfl) (by simp only[EV,seval]<;>rfl)
theorem PO (ns:List Node) (i:Int):Flat (W4 ns i):=by unfold W4;split;exact PN _;exact vU _
theorem Zx (ns:List Node) (i:Int):Flat (W5 ns i):=by unfold W5;split;exact PN _;exact vU _
theorem aMB (ns:List Node) (hu:iB ns) (hn:(ns.length:Int)<1000000) (i:Int) (st:St) (d:Option Nat):aN (aC Tryz.prog) 236 [.agg (cU ⟨ns⟩),.v (.int .i64 i)] st d=some { dst:=d,val:=W4 ns i }:=bL (bH (nC _) (.v _)) (aR3 ns hu hn i) (PO ns i)
theorem aMC (ns:List Node) (hu:iB ns) (hn:(ns.length:Int)<1000000) (i:Int) (st:St) (d:Option Nat):aN (aC Tryz.prog) 238 [.agg (cU ⟨ns⟩),.v (.int .i64 i)] st d=some { dst:=d,val:=W5 ns i }:=bL (bH (nC _) (.v _)) (aR4 ns hu hn i) (Zx ns i)
end Go.Ab.Tryz
namespace Go.Ab.Tryz
open Classical Go.Proofs Go.Ab
end Go.Ab.Tryz
namespace Go.Ab.Tryz
open Classical Go.Proofs Go.Ab
theorem K4 (ns:List Node) (hn:(ns.length:Int)<1000000) (i:Int):(∃e,W4 ns i=.dX [.agg [.v (.slice none 0 0)],.v (.int .i64 e)])\/∃r:List Node,W4 ns i=.dX [.agg (cU ⟨r⟩),.v (.int .i64 0)]/\(r.length:Int)<1000000:=by
 unfold W4;split
 ·cases h:raO ns i with
  | none=>exact .inl ⟨21,rfl⟩
  | some r=>exact .inr ⟨r,rfl,by rw[JT _ _ _ h];exact hn⟩
 ·exact .inl ⟨10,rfl⟩
theorem HQ (ns:List Node) (hn:(ns.length:Int)<1000000) (i:Int):(∃e,W5 ns i=.dX [.agg [.v (.slice none 0 0)],.v (.int .i64 e)])\/∃r:List Node,W5 ns i=.dX [.agg (cU ⟨r⟩),.v (.int .i64 0)]/\(r.length:Int)<1000000:=by
 unfold W5;split
 ·cases h:coO ns i with
  | none=>exact .inl ⟨21,rfl⟩
  | some r=>exact .inr ⟨r,rfl,by rw[JT _ _ _ h];exact hn⟩
 ·exact .inl ⟨10,rfl⟩
def pay (ns:List Node) (x:Int):cJ:=(nd ns x).block.jK
noncomputable def Ad (ns:List Node) (p:List Int):Nat->Option Nat
 | 0=>none
 | n+1=>if pay ns (it p ((p.length-(n+1):Nat):Int))=dK then Ad ns p n else some (p.length-(n+1))
noncomputable def Ir (ns:List Node) (p:List Int) (h:cJ):Nat->Option Nat
 | 0=>none
 | n+1=>if pay ns (it p (n:Int))=h then some n else Ir ns p h n
noncomputable def pC (ns:List Node) (i:Int) (h:cJ):Int × Int :=
 if path ns i=[] then (-1,-1)
 else if h=dK then
  match Ad ns (path ns i) (path ns i).length with
  | none=>(-1,i)
  | some k=>(if k=0 then -1 else it (path ns i) ((k:Int)-1),it (path ns i) k)
 else
  match Ir ns (path ns i) h ((path ns i).length-1) with
  | none=>(-1,i)
  | some k=>(it (path ns i) k,it (path ns i) ((k:Int)+1))
noncomputable def reA (ns:List Node) (i:Int) (h:cJ):AV:=.dX [.v (.int .i64 (pC ns i h).1),.v (.int .i64 (pC ns i h).2)]
theorem HR {ns:List Node} {p:List Int}:∀(n k:Nat),n<=p.length->Ad ns p n=some k->k<p.length
 | 0,k,_,h=>by simp[Ad] at h
 | n+1,k,hn,h=>by
   simp only[Ad] at h;split at h
   ·exact HR n k (by omega) h
   ·simp at h;omega
theorem PQ {ns:List Node} {p:List Int} {h:cJ}:∀(n k:Nat),Ir ns p h n=some k->k<n
 | 0,k,hk=>by simp[Ir] at hk
 | n+1,k,hk=>by
   simp only[Ir] at hk;split at hk
   ·simp at hk;omega
   ·have:=PQ n k hk;omega
theorem XF {ns:List Node} {i:Int} {h:cJ} (hp:path ns i=[]):pC ns i h=(-1,-1):=if_pos hp
theorem aHY {ns:List Node} {i j:Int} (i0:0<=i) (i1:i<ns.length) (j0:0<=j) (y:Node):nd (ns.set i.toNat y) j=if j=i then y else nd ns j:=by
 unfold nd;rw[List.getD_eq_getElem?_getD,List.getD_eq_getElem?_getD];by_cases h:j=i
 ·subst h;have:j.toNat<ns.length:=by omega
  simp[this]
 ·rw[if_neg h,List.getElem?_set_ne (by omega)]
theorem PR {to never:Int} (gI:to≠never):∀(l:List Int) (ns r:List Node),(∀x∈l,0<=x/\x<ns.length)->HP to never l ns=some r ->
 (∀x∈l,(nd ns x).status≠never)/\r.length=ns.length/\∀j:Int,0<=j->j<ns.length->nd r j=if j∈l then Zw (nd ns j) to else nd ns j
 | [],ns,r,_,h=>by
   simp only[HP,Option.some.injEq] at h;subst h;exact⟨by simp,rfl,by simp⟩
 | i :: l,ns,r,hl,h=>by
   simp only[HP] at h;split at h
   ·cases h
   ·rename_i hs;obtain⟨i0,i1⟩:=hl i (by simp)
    obtain⟨h1,h2,h3⟩:=PR gI l (setAt ns i to) r (fun x hx=>by rw[Dq];exact hl x (by simp[hx])) h
    rw[Dq] at h2 h3;have hnd:∀j:Int,0<=j->nd (setAt ns i to) j=if j=i then Zw (nd ns i) to else nd ns j:=fun j j0=>aHY i0 i1 j0 _
    refine⟨fun x hx=>?_,h2,fun j j0 j1=>?_⟩
    ·rcases List.mem_cons.1 hx with rfl|hx
     ·exact hs
     ·by_cases hxi:x=i
      ·subst hxi;exact hs
      ·have:=h1 x hx
       rw[hnd x (hl x (by simp[hx])).1,if_neg hxi] at this
       exact this
    ·rw[h3 j j0 j1,hnd j j0];by_cases hji:j=i
     ·subst hji;simp only[if_true,List.mem_cons,true_or];split<;>rfl
     ·simp[hji]
structure XG (a b:List Node):Prop where
 len:a.length=b.length
 up:∀j:Int,0<=j->j<a.length->(nd a j).up=(nd b j).up
theorem XG.aR7 {a b:List Node} (h:XG a b) (hu:iB a):iB b:=fun i i0 i1=>by rw[<- h.up i (by omega) (by rw[h.len];exact i1)];exact hu i i0 (by rw[h.len];exact i1)
structure Chd (ns r:List Node) (l:List Int) (to:Int):Prop where
 len:r.length=ns.length
 at_:∀j:Int,0<=j->j<ns.length->nd r j=if j∈l then Zw (nd ns j) to else nd ns j
theorem Chd.su {ns r:List Node} {l:List Int} {to:Int} (h:Chd ns r l to):XG ns r where
 len:=h.len.symm
 up:=fun j j0 j1=>by rw[h.at_ j j0 j1];split<;>rfl
theorem Chd.block {ns r:List Node} {l:List Int} {to:Int} (h:Chd ns r l to) {j:Int} (j0:0<=j) (j1:j<ns.length):(nd r j).block=(nd ns j).block:=by
 rw[h.at_ j j0 j1];split<;>rfl
theorem Chd.upE {ns r:List Node} {l:List Int} {to:Int} (h:Chd ns r l to) {j:Int} (j0:0<=j) (j1:j<ns.length):(nd r j).up=(nd ns j).up:=by
 rw[h.at_ j j0 j1];split<;>rfl
theorem Chd.st {ns r:List Node} {l:List Int} {to:Int} (h:Chd ns r l to) {j:Int} (j0:0<=j) (j1:j<ns.length):(nd r j).status=if j∈l then to else (nd ns j).status:=by
 rw[h.at_ j j0 j1];split<;>rfl
structure aHZ (ns r:List Node) (i:Int):Prop where
 c:Chd ns r (path ns i) 1
 ok:∀x∈path ns i,(nd ns x).status≠2
theorem K5 {ns r:List Node} (hu:iB ns) {i:Int} (h:raO ns i=some r):aHZ ns r i:=by
 obtain⟨h1,h2,h3⟩:=PR (by decide) _ _ _ (Yj hu) h
 exact⟨⟨h2,h3⟩,h1⟩
structure aLj (ns r:List Node) (i:Int):Prop where
 c:Chd ns r (Ho ns i ns.length) 2
 ok:∀x∈Ho ns i ns.length,(nd ns x).status≠1
theorem HS {ns:List Node} (hu:iB ns):∀(n:Nat) (c:Int),c.toNat=n->0<=c->c<ns.length->∀k:Int,1<=k->k<(path ns c).length->(nd ns (it (path ns c) k)).up=it (path ns c) (k-1):=by
 intro n;induction n using Nat.strongRecOn with
 | _ n ih =>
   intro c hc c0 c1 k k0 k1;by_cases h:c=0
   ·subst h;rw[rV (by omega)] at k1
    simp at k1
    omega
   ·obtain⟨u0,u1⟩:=hu c (by omega) c1
    rw[rW hu (by omega) c1] at k1 ⊢
    simp at k1
    by_cases hk:k=(path ns (nd ns c).up).length
    ·rw[Dp hk,mC (by omega) (by omega),hk,K2 hu u0 (by omega)]
    ·rw[mC (by omega) (by omega),mC (by omega) (by omega)]
     exact ih (nd ns c).up.toNat (by omega) _ rfl u0 (by omega) k k0 (by omega)
theorem Y7 {ns:List Node} (hu:iB ns):∀(n:Nat) (c:Int),c.toNat=n->0<=c->c<ns.length->it (path ns c) 0=0:=by
 intro n;induction n using Nat.strongRecOn with
 | _ n ih =>
   intro c hc c0 c1;by_cases h:c=0
   ·subst h;rw[rV (by omega)];rfl
   ·obtain⟨u0,u1⟩:=hu c (by omega) c1
    have:=JU hu u0 (by omega)
    rw[rW hu (by omega) c1,mC (Int.le_refl _) (by omega)]
    exact ih _ (by omega) _ rfl u0 (by omega)
theorem aR9 (ns:List Node) (hu:iB ns) (hr:(nd ns 0).up=-1) (hn:(ns.length:Int)<1000000) (i:Int) (h:cJ):aC Tryz.prog 237 [.agg (cU ⟨ns⟩),.v (.int .i64 i),.agg (aX h)]=some (reA ns i h):=by
 rw[cL Tryz.func237 rfl aMD rfl];unfold reA;by_cases hm:0<=i/\i<ns.length
 ·have h45:=k76 ns hu hn i hm.1 hm.2
  have hpl:=Bv hu i
  have hp0:=JU hu hm.1 hm.2
  have C5:=Yj hu (i:=i)
  have hpe:path ns i≠[]:=by intro h;rw[h] at hp0;simp at hp0
  have hq:(((path ns i).length:Int) == 0)=false:=by simp[hpe]
  have Zp:=fun k h h'=>HS hu _ i rfl hm.1 hm.2 k h h'
  have hi0:=Y7 hu _ i rfl hm.1 hm.2
  unfold pC;rw[if_neg hpe];generalize path ns i=p at h45 hpl hp0 C5 hq Zp hi0
  by_cases hz:h=dK
  ·have hd:decide (h=dK)=true:=decide_eq_true hz
   rw[if_pos hz];simp only[ZZ,seval,h45,hq,hd];refine lP (fun n st=>∃k:Nat,(st.env 1=.v (.int .i64 i)/\st.env 3=.ptr 3 0 0/\st.heap 3 0=some (.cells (cU ⟨ns⟩))/\st.env 8=.own 13 0/\st.heap 13 0=some (.row 3 1 p.length (aI p))/\st.env 9=.v (.int .i64 k))/\Ad ns p p.length=Ad ns p (p.length-k)/\k<=p.length/\n=p.length-k)
    (fun e st=>(e=.ret/\∃k,Ad ns p p.length=some k/\st.env 6=.v (.int .i64 (if k=0 then -1 else it p ((k:Int)-1)))/\st.env 7=.v (.int .i64 (it p k)))\/(e=.exit 0/\Ad ns p p.length=none/\st.env 1=.v (.int .i64 i))) p.length ?step ?start ?rest
   case step =>
    rintro n st ⟨k,hI,hf,hk,Kk⟩
    by_cases aZ:(k:Int)<p.length
    ·have q0:(0:Int)<=k:=by omega
     have hw:IntKind.i64.wrap ((k:Int)+1)=((k+1:Nat):Int):=by rw[Im _ (by omega) (by omega)];omega
     obtain⟨x0,x1⟩:=C5 _ (Fu q0 aZ)
     obtain⟨m,hm'⟩:∃m,p.length-k=m+1:=⟨p.length-k-1,by omega⟩
     rw[hm'] at hf;simp only[Ad] at hf;rw[show p.length-(m+1)=k by omega] at hf
     by_cases hpz:pay ns (it p k)=dK
     ·rw[if_pos hpz] at hf;have hd2:decide ((nd ns (it p k)).block.jK=dK)=true:=decide_eq_true hpz
      apply oN (p.length-(k+1))
      ·simp only[ZZ,seval,hI,aZ,q0,x0,x1,hd2,hw];rfl
      ·exact⟨k+1,by simp only[EV,seval,hI],by rw[hf,show p.length-(k+1)=m by omega],by omega,rfl⟩
     ·rw[if_neg hpz] at hf;have hd2:decide ((nd ns (it p k)).block.jK=dK)=false:=decide_eq_false hpz
      have hupk:(nd ns (it p k)).up=if k=0 then -1 else it p ((k:Int)-1):=by
       by_cases xE:k=0
       ·rw[if_pos xE,show ((k:Int))=0 by omega,hi0,hr]
       ·rw[if_neg xE,Zp k (by omega) aZ]
      apply oT (.ret)
      ·simp only[ZZ,seval,hI,aZ,q0,x0,x1,hd2];rfl
      ·exact .inl ⟨rfl,k,hf,by rw[<- hupk];simp only[EV,seval],by simp only[EV,seval]⟩
    ·obtain rfl:k=p.length:=by omega
     rw[Nat.sub_self] at hf;apply oT (.exit 0)
     ·simp only[ZZ,seval,hI,aZ];rfl
     ·exact .inr ⟨rfl,hf,by simp only[EV,seval,hI]⟩
   case start=>exact⟨0,by simp only[EV,seval]<;>rfl,rfl,by omega,rfl⟩
   case rest =>
    rintro e st (⟨rfl,k,hf,h6,h7⟩|⟨rfl,hf,h1⟩)
    ·rw[hf];simp only[ZZ,seval];exact dJ rfl (by simp only[bX,EV,seval,h6]<;>rfl) (by simp only[bX,EV,seval,h7]<;>rfl) (by simp only[EV,seval]<;>rfl) (by simp only[EV,seval]<;>rfl)
    ·rw[hf];simp only[ZZ,seval,h1];exact dJ rfl (by simp only[bX,EV,seval]<;>rfl) (by simp only[bX,EV,seval]<;>rfl) (by simp only[EV,seval]<;>rfl) (by simp only[EV,seval]<;>rfl)
  ·have hd:decide (h=dK)=false:=decide_eq_false hz
   have hw0:IntKind.i64.wrap ((p.length:Int)-2)=(p.length:Int)-2:=Im _ (by omega) (by omega)
   rw[if_neg hz];simp only[ZZ,seval,h45,hq,hd,hw0];refine lP (fun n st=>∃m:Nat,(st.env 1=.v (.int .i64 i)/\st.env 3=.ptr 3 0 0/\st.heap 3 0=some (.cells (cU ⟨ns⟩))/\st.env 5=.ptr 5 0 0/\st.heap 5 0=some (.cells (aX h))/\st.env 8=.own 13 0/\st.heap 13 0=some (.row 3 1 p.length (aI p))/\st.env 10=.v (.int .i64 ((m:Int)-1)))/\Ir ns p h (p.length-1)=Ir ns p h m/\m<=p.length-1/\n=m)
    (fun e st=>(e=.ret/\∃k,Ir ns p h (p.length-1)=some k/\st.env 6=.v (.int .i64 (it p k))/\st.env 7=.v (.int .i64 (it p ((k:Int)+1))))\/(e=.exit 2/\Ir ns p h (p.length-1)=none/\st.env 1=.v (.int .i64 i))) (p.length-1) ?step ?start ?rest
   case step =>
    rintro n st ⟨m,hI,hf,hm',Kk⟩
    by_cases aZ:(0:Int)<=(m:Int)-1
    ·obtain⟨k,rfl⟩:∃k,m=k+1:=⟨m-1,by omega⟩
     have e1:((k+1:Nat):Int)-1=k:=by omega
     rw[e1] at hI aZ;have k1:(k:Int)<p.length:=by omega
     have hw:IntKind.i64.wrap ((k:Int)-1)=(k:Int)-1:=Im _ (by omega) (by omega)
     obtain⟨x0,x1⟩:=C5 _ (Fu aZ k1)
     simp only[Ir] at hf;by_cases hpz:pay ns (it p k)=h
     ·rw[if_pos hpz] at hf;have hd2:decide ((nd ns (it p k)).block.jK=h)=true:=decide_eq_true hpz
      have K6:IntKind.i64.wrap ((k:Int)+1)=(k:Int)+1:=Im _ (by omega) (by omega)
      have r0:(0:Int)<=(k:Int)+1:=by omega
      have r1:(k:Int)+1<p.length:=by omega
      apply oT (.ret)
      ·simp only[ZZ,seval,hI,aZ,k1,x0,x1,hd2,K6,r0,r1];rfl
      ·exact .inl ⟨rfl,k,hf,by simp only[EV,seval],by simp only[EV,seval]⟩
     ·rw[if_neg hpz] at hf;have hd2:decide ((nd ns (it p k)).block.jK=h)=false:=decide_eq_false hpz
      apply oN (k)
      ·simp only[ZZ,seval,hI,aZ,k1,x0,x1,hd2,hw];rfl
      ·exact⟨k,by simp only[EV,seval,hI],hf,by omega,rfl⟩
    ·obtain rfl:m=0:=by omega
     apply oT (.exit 2)
     ·simp only[ZZ,seval,hI,aZ];rfl
     ·exact .inr ⟨rfl,hf,by simp only[EV,seval,hI]⟩
   case start =>
    have hs:(p.length:Int)-2=((p.length-1:Nat):Int)-1:=by omega
    exact⟨p.length-1,by simp only[EV,seval,hs],rfl,by omega,rfl⟩
   case rest =>
    rintro e st (⟨rfl,k,hf,h6,h7⟩|⟨rfl,hf,h1⟩)
    ·rw[hf];simp only[ZZ,seval];exact dJ rfl (by simp only[bX,EV,seval,h6]<;>rfl) (by simp only[bX,EV,seval,h7]<;>rfl) (by simp only[EV,seval]<;>rfl) (by simp only[EV,seval]<;>rfl)
    ·rw[hf];simp only[ZZ,seval,h1];exact dJ rfl (by simp only[bX,EV,seval]<;>rfl) (by simp only[bX,EV,seval]<;>rfl) (by simp only[EV,seval]<;>rfl) (by simp only[EV,seval]<;>rfl)
 ·rw[XF (zF hm)];have h45:=I4 ns i hm
  simp only[ZZ,seval,h45];exact dJ rfl (by simp only[bX,EV,seval]<;>rfl) (by simp only[bX,EV,seval]<;>rfl) (by simp only[EV,seval]<;>rfl) (by simp only[EV,seval]<;>rfl)
theorem Y8 (ns:List Node) (i:Int) (h:cJ):Flat (reA ns i h):=.dX _ (bH (.v _) (.v _))
theorem aSa (ns:List Node) (hu:iB ns) (hr:(nd ns 0).up=-1) (hn:(ns.length:Int)<1000000) (i:Int) (h:cJ) (st:St) (d:Option Nat):aN (aC Tryz.prog) 237 [.agg (cU ⟨ns⟩),.v (.int .i64 i),.agg (aX h)] st d=some { dst:=d,val:=.dX [.v (.int .i64 (pC ns i h).1),.v (.int .i64 (pC ns i h).2)]}:=bL (oW (nC _) (.v _) (qS _)) (aR9 ns hu hr hn i h) (Y8 ns i h)
theorem XH {ns:List Node} (hu:iB ns) (hr:(nd ns 0).up=-1) {i:Int} (i0:0<=i) (i1:i<ns.length) (h:cJ):(pC ns i h).2∈path ns i/\((pC ns i h).1<0\/((pC ns i h).1∈path ns i/\(nd ns (pC ns i h).2).up=(pC ns i h).1)):=by
 have hp0:=JU hu i0 i1
 have hpe:path ns i≠[]:=by intro h;rw[h] at hp0;simp at hp0
 have HT:=zG hu i0 i1
 have Zp:=fun k h h'=>HS hu _ i rfl i0 i1 k h h'
 unfold pC;rw[if_neg hpe];by_cases hz:h=dK
 ·rw[if_pos hz];cases hf:Ad ns (path ns i) (path ns i).length with
  | none=>exact⟨HT,.inl (by simp)⟩
  | some k =>
    have hk:=HR _ _ (Nat.le_refl _) hf
    simp only
    refine⟨Fu (by omega) (by omega), ?_⟩
    by_cases xE:k=0
    ·rw[if_pos xE];exact .inl (by omega)
    ·rw[if_neg xE];exact .inr ⟨Fu (by omega) (by omega),Zp k (by omega) (by omega)⟩
 ·rw[if_neg hz];cases hf:Ir ns (path ns i) h ((path ns i).length-1) with
  | none=>exact⟨HT,.inl (by simp)⟩
  | some k =>
    have hk:=PQ _ _ hf
    simp only
    refine⟨Fu (by omega) (by omega),.inr ⟨Fu (by omega) (by omega), ?_⟩⟩
    have:=Zp ((k:Int)+1) (by omega) (by omega)
    rw[this];congr 1
    omega
def Zy (kv:AV) (l:List Int):Prop:=kv=.sl l.length (aI l)\/(l=[]/\kv=.v (.slice none 0 0))
theorem Zy.view {kv:AV} {l:List Int} (h:Zy kv l) (st:St):aQ st kv=some (l.length,aI l):=by
 rcases h with rfl|⟨rfl,rfl⟩<;>rfl
theorem Zy.idx {kv:AV} {l:List Int} (h:Zy kv l) (st:St) {k:IntKind} {i:Int} (h0:0<=i) (h1:i<l.length):bE Tryz.prog st 22 kv (.v (.int k i))=some (.ip (qD (it l i)) 0):=by
 rcases h with rfl|⟨rfl,rfl⟩
 ·exact aGC st h0 h1
 ·simp at h1;omega
theorem Zy.flat {kv:AV} {l:List Int} (h:Zy kv l):Flat kv:=by
 rcases h with rfl|⟨rfl,rfl⟩
 ·exact Tc l
 ·exact .v _
def C6 (ns:List Node) (c:Int) (l:List Int):Prop:=∃k∈l,Bw ns c k=true
noncomputable def Y9 (ns:List Node) (i:Int) (h:cJ) (l:List Int):AV :=
 if C6 ns (pC ns i h).2 l then EW 21
 else if 0<=(pC ns i h).1 then
  match raO ns (pC ns i h).1 with
  | none=>EW 21
  | some r=>W5 r (pC ns i h).2
 else W5 ns (pC ns i h).2
noncomputable def XI (ns:List Node) (i:Int) (v:gO) (l:List Int):AV :=
 if ¬(0<=i/\i<ns.length) then EW 10
 else if v.kind=1 then W4 ns i
 else if v.kind=2 then Y9 ns i v.dO l
 else if v.kind=3\/v.kind=4 then .dX [.agg (cU ⟨ns⟩),.v (.int .i64 0)]
 else EW 2
theorem K7 (ns:List Node) (i:Int) (h:cJ) (l:List Int):Flat (Y9 ns i h l):=by
 unfold Y9;split
 ·exact vU _
 ·split
  ·split
   ·exact vU _
   ·exact Zx _ _
  ·exact Zx _ _
theorem K8 (ns:List Node) (i:Int) (v:gO) (l:List Int):Flat (XI ns i v l):=by
 unfold XI;split
 ·exact vU _
 ·split
  ·exact PO _ _
  ·split
   ·exact K7 _ _ _ _
   ·split
    ·exact .dX _ (bH (nC _) (.v _))
    ·exact vU _
end Go.Ab.Tryz
