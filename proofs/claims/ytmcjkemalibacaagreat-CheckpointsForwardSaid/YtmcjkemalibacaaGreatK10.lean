/-
  Part 10 of the proof: an evaluator of programs, its soundness, and what functions of this program compute.
-/
import Derived.Test.YtmcjkemalibacaaGreatK9
set_option linter.all false
set_option maxRecDepth 20000
set_option maxHeartbeats 40000000
open Go.IntKind (i64 u64 u8)
open List Go.Proofs.Tryz
noncomputable section
namespace Go.Ab.Tryz
open Classical Go.Proofs Go.Ab
def Ej (x:Int) (h1:-9223372036854775808<=x) (h2:x<=9223372036854775807):i64.wrap x=x:=wrap_i64 x h1 h2
def c87 (ns:List Node) (i:Int):aG prog 87 [.agg (cH ⟨ns⟩),.v (.int .i64 i)]=some (.v (.bool (decide (0<=i) && decide (i<ns.length)))):=by
 rw[cL func87 rfl rfl];by_cases h:0<=i
 all_goals
  simp only[ZZ,seval,h,decide_true,decide_false,Bool.false_eq_true,Bool.true_and,Bool.false_and];exact bT rfl (by simp only[EV,seval]) (.v _)
def XI (ns:List Node) (i:Int):KC 87 [.agg (cH ⟨ns⟩),.v (.int .i64 i)] (.v (.bool (decide (0<=i) && decide (i<ns.length)))):=fun _ _=>bE (bB (lL _) (.v _)) (c87 ns i) (.v _)
def Ub (n:Int):Bool:=decide (0<=n) && decide (n<=2)
def aOW (i:Int):aG prog 186 [.v (.int .i64 i)]=some (.v (.bool (Ub i))):=by
 rw[cL func186 rfl rfl];by_cases h:0<=i
 all_goals
  simp only[ZZ,seval,h,decide_true,decide_false,Bool.false_eq_true,Bool.true_and,Bool.false_and];exact bT rfl (by simp only[EV,seval,Ub,h,decide_true,decide_false,Bool.false_and,Bool.true_and]) (.v _)
def aC (ns:List Node) (r:cC):Int:=match ns.findIdx? (fun n=>decide (n.block.root=r)) with
 | some k=>(k:Int)
 | none=>-1
def PU {ns:List Node} {r:cC} {i:Int} (h0:0<=i) (h1:i<ns.length) (hr:(nd ns i).block.root=r) (hb:∀j,0<=j->j<i->(nd ns j).block.root≠r):aC ns r=i:=by
 obtain⟨hi,e⟩:=Jc h0 h1
 have:ns.findIdx? (fun n=>decide (n.block.root=r))=some i.toNat:=by
  rw[findIdx?_eq_some_iff_getElem];refine⟨hi,by simp[<- e,hr],fun j hj=>?_⟩
  have h:=hb j (by omega) (by omega)
  have hj':j<ns.length:=by omega
  simp[nd,hj'] at h
  simpa using h
 unfold aC;rw[this];simp;omega
def AB {ns:List Node} {r:cC} (hb:∀j,0<=j->j<(ns.length:Int)->(nd ns j).block.root≠r):aC ns r=-1:=by
 have:ns.findIdx? (fun n=>decide (n.block.root=r))=none:=by
  rw[findIdx?_eq_none_iff];intro n hn;obtain⟨j,hj,rfl⟩:=getElem_of_mem hn
  have h:=hb j (by omega) (by omega)
  simp[nd,hj] at h
  simpa using h
 unfold aC;rw[this]
def c46 (ns:List Node) (r:cC) (hn:(ns.length:Int)<1000000):aG prog 46 [.agg (cH ⟨ns⟩),.agg (bC r)]=some (.v (.int .i64 (aC ns r))):=by
 rw[cL func46 rfl rfl];simp only[ZZ,seval];refine jK (fun n st=>∃i:Int,st.env 2=.ptr 2 0 0/\st.env 3=.ptr 3 0 0/\st.heap 2 0=some (.cells (cH ⟨ns⟩))/\st.heap 3 0=some (.cells (bC r))/\st.env 5=.v (.int .i64 i)/\0<=i/\i<=ns.length/\n=(ns.length-i).toNat /\
  ∀j,0<=j->j<i->(nd ns j).block.root≠r)
  (fun e st=>(e=.ret/\st.env 4=.v (.int .i64 (aC ns r)))\/(e=.exit 0/\aC ns r=-1)) ns.length ?step ?start ?rest
 case step =>
  rintro n st ⟨i,h2,h3,vP,KS,h5,i0,i1,Hu,hb⟩
  by_cases aW:i<ns.length
  ·have hw:i64.wrap (i+1)=i+1:=Ej _ (by omega) (by omega)
   by_cases hr:(nd ns i).block.root=r
   ·apply oT (.ret)
    ·simp only[ZZ,seval,h2,h3,vP,KS,h5,aW,i0,hr];rfl
    ·exact .inl ⟨rfl,by simp only[EV,seval,PU i0 aW hr hb]⟩
   ·apply oN ((ns.length-(i+1)).toNat)
    ·simp only[ZZ,seval,h2,h3,vP,KS,h5,aW,i0,hr,hw];rfl
    ·exact⟨i+1,by simp only[EV,seval,h2],by simp only[EV,seval,h3],by simp only[EV,seval,vP],by simp only[EV,seval,KS],(by simp only[EV,seval]),by omega,by omega,rfl,fun j j0 j1=>by
     rcases Int.lt_or_eq_of_le (show j<=i by omega) with h|rfl
     ·exact hb j j0 h
     ·exact hr⟩
  ·apply oT (.exit 0)
   ·simp only[ZZ,seval,h2,h3,vP,KS,h5,aW,i0];rfl
   ·exact .inr ⟨rfl,AB fun j j0 j1=>hb j j0 (by omega)⟩
 case start=>exact⟨0,(by simp only[EV,seval]),(by simp only[EV,seval]),(by simp only[EV,seval]),(by simp only[EV,seval]),(by simp only[EV,seval]),by omega,by omega,by omega,fun j _ _=>by omega⟩
 case rest =>
  rintro e st (⟨rfl,h⟩|⟨rfl,h⟩)
  ·simp only[ZZ,seval];exact bT rfl h (.v _)
  ·simp only[ZZ,seval];exact bT rfl (by simp only[EV,seval,h]) (.v _)
def q49 (args:List AV) (st:St) (d:Option Nat):bH (aG prog) 49 args st d=uT (aG prog) 49 (cK (args.map (fS st))) (decide (∀x∈args,Flat x)) st d:=jY _ _ _ _ _
def c49 (l:List Int) (a:Int) (hn:(l.length:Int)<1000000):aG prog 49 [.sl l.length (aM l),.v (.int .i64 a)]=some (.v (.bool (decide (a∈l)))):=by
 rw[cL func49 rfl rfl];simp only[ZZ,seval];refine jK (fun n st=>∃i:Int,st.env 0=.sl l.length (aM l)/\st.env 1=.v (.int .i64 a)/\st.env 5=.v (.int .i64 i)/\0<=i/\i<=l.length/\n=(l.length-i).toNat/\∀j,0<=j->j<i->it l j≠a)
  (fun e st=>(e=.ret/\st.env 4=.v (.bool (decide (a∈l))))\/(e=.exit 0/\decide (a∈l)=false)) l.length ?step ?start ?rest
 case step =>
  rintro n st ⟨i,h0,h1,h5,i0,i1,Hu,hb⟩
  by_cases aW:i<l.length
  ·have hw:i64.wrap (i+1)=i+1:=Ej _ (by omega) (by omega)
   obtain⟨hi,he⟩:=yR i0 aW
   by_cases hr:it l i=a
   ·have hm:decide (a∈l)=true:=by rw[decide_eq_true_eq,<- hr,he];exact getElem_mem hi
    have hbq:(it l i == a)=true:=by simp[hr]
    apply oT (.ret)
    ·simp only[ZZ,seval,h0,h1,h5,aW,i0,hbq];rfl
    ·exact .inl ⟨rfl,by simp only[EV,seval,hm]⟩
   ·have hbq:(it l i == a)=false:=by simp[hr]
    apply oN ((l.length-(i+1)).toNat)
    ·simp only[ZZ,seval,h0,h1,h5,aW,i0,hbq,hw];rfl
    ·exact⟨i+1,by simp only[EV,seval,h0],by simp only[EV,seval,h1],(by simp only[EV,seval]),by omega,by omega,rfl,fun j j0 j1=>by
     rcases Int.lt_or_eq_of_le (show j<=i by omega) with h|rfl
     ·exact hb j j0 h
     ·exact hr⟩
  ·apply oT (.exit 0)
   ·simp only[ZZ,seval,h0,h1,h5,aW,i0];rfl
   ·exact .inr ⟨rfl,by
    rw[decide_eq_false_iff_not];intro hm;obtain⟨j,hj,rfl⟩:=getElem_of_mem hm
    exact hb j (by omega) (by omega) (by simp[it,hj])⟩
 case start=>exact⟨0,(by simp only[EV,seval]),(by simp only[EV,seval]),(by simp only[EV,seval]),by omega,by omega,by omega,fun j _ _=>by omega⟩
 case rest =>
  rintro e st (⟨rfl,h⟩|⟨rfl,h⟩)
  ·simp only[ZZ,seval];exact bT rfl h (.v _)
  ·simp only[ZZ,seval];exact bT rfl (by simp only[EV,seval,h]) (.v _)
def aLp (a:Int):aG prog 49 [.v (.slice none 0 0),.v (.int .i64 a)]=some (.v (.bool false)):=by
 rw[cL func49 rfl rfl];simp only[ZZ,seval,Jd,Int.natCast_zero,Int.lt_irrefl,decide_false];exact bT rfl (by simp only[EV,seval]) (.v _)
def k49 (l:List Int) (a:Int) (hn:(l.length:Int)<1000000) (fl:Bool) (st:St) (d:Option Nat):uT (aG prog) 49 (some [.sl l.length (aM l),.v (.int .i64 a)]) fl st d=some { dst:=d,val:=.v (.bool (decide (a∈l)))}:=Uc (c49 l a hn)
def aOX (a:Int) (fl:Bool) (st:St) (d:Option Nat):uT (aG prog) 49 (some [.v (.slice none 0 0),.v (.int .i64 a)]) fl st d=some { dst:=d,val:=.v (.bool false)}:=Uc (aLp a)
def fK (ns:List Node):Prop:=∀i:Int,0<i->i<ns.length->0<=(nd ns i).up/\(nd ns i).up<i
def AD (ns:List Node):Nat->Int->List Int
 | 0,_=>[]
 | f+1,i=>if i=0 then [0] else AD ns f (nd ns i).up++[i]
def path (ns:List Node) (i:Int):List Int:=if 0<=i/\i<ns.length then AD ns (i.toNat+1) i else []
def AE {ns:List Node} (h:fK ns):∀(f g:Nat) (i:Int),0<=i->i<ns.length->i.toNat<f->i.toNat<g->AD ns f i=AD ns g i
 | 0,_,i,_,_,h1,_=>by omega
 | f+1,0,i,_,_,_,h2=>by omega
 | f+1,g+1,i,i0,i1,h1,h2=>by
   simp only[AD];by_cases hi:i=0
   ·rw[if_pos hi,if_pos hi]
   ·obtain⟨u0,u1⟩:=h i (by omega) i1
    rw[if_neg hi,if_neg hi,AE h f g (nd ns i).up u0 (by omega) (by omega) (by omega)]
def mG {ns:List Node} (h:0<ns.length):path ns 0=[0]:=by
 unfold path;rw[if_pos ⟨by omega,by omega⟩]
 rfl
def jL {ns:List Node} (h:fK ns) {i:Int} (i0:0<i) (i1:i<ns.length):path ns i=path ns (nd ns i).up++[i]:=by
 obtain⟨u0,u1⟩:=h i i0 i1
 unfold path;rw[if_pos ⟨by omega,i1⟩,if_pos ⟨u0,by omega⟩]
 show AD ns (i.toNat+1) i=_
 rw[AD,if_neg (by omega)]
 rw[AE h i.toNat ((nd ns i).up.toNat+1) (nd ns i).up u0 (by omega) (by omega) (by omega)]
def tV {ns:List Node} {i:Int} (h:¬(0<=i/\i<ns.length)):path ns i=[]:=if_neg h
def aAf {ns:List Node} (h:fK ns):∀(k:Nat) (i:Int),i.toNat=k->0<=i->i<ns.length->(path ns i).length<=i+1:=by
 intro k;induction k using Nat.strongRecOn with
 | _ k ih =>
   intro i hk i0 i1;by_cases hi:i=0
   ·subst hi;rw[mG (by omega)];simp
   ·obtain⟨u0,u1⟩:=h i (by omega) i1
    rw[jL h (by omega) i1]
    have:=ih (nd ns i).up.toNat (by omega) _ rfl u0 (by omega)
    simp only[length_append,length_singleton];omega
def Cl {ns:List Node} (h:fK ns) (i:Int):((path ns i).length:Int)<=ns.length:=by
 by_cases hi:0<=i/\i<ns.length
 ·have:=aAf h _ i rfl hi.1 hi.2;omega
 ·rw[tV hi];simp
def aOY (ns:List Node) (i:Int) (h:¬(0<=i/\i<ns.length)):aG prog 76 [.agg (cH ⟨ns⟩),.v (.int .i64 i)]=some (.v (.slice none 0 0)):=by
 rw[cL func76 rfl rfl];have hd:(decide (0<=i) && decide (i<ns.length))=false:=by
  rw[<- Bool.not_eq_true];simpa using h
 simp only[ZZ,seval,XI,hd];exact bT rfl (by simp only[EV,seval]) (.v _)
def c76 (ns:List Node) (hu:fK ns) (hn:(ns.length:Int)<1000000):∀(k:Nat) (i:Int),i.toNat=k->0<=i->i<ns.length->aG prog 76 [.agg (cH ⟨ns⟩),.v (.int .i64 i)]=some (.uniq 3 1 (path ns i).length (aM (path ns i))):=by
 intro k;induction k using Nat.strongRecOn with
 | _ k ih =>
   intro i hk i0 i1;have hd:(decide (0<=i) && decide (i<ns.length))=true:=by simp[i0,i1]
   rw[cL func76 rfl rfl];by_cases hi:i=0
   ·subst hi;simp only[ZZ,seval,XI,hd,i1,beq_self_eq_true];exact uK rfl (by simp only[EV,seval];rfl) (by simp only[EV,seval,mG (show 0<ns.length by omega)];rfl) (gG _)
   ·obtain⟨u0,u1⟩:=hu i (by omega) i1
    have hq:(i == 0)=false:=by simp[hi]
    have hr:=ih (nd ns i).up.toNat (by omega) _ rfl u0 (by omega)
    have hc:∀(st:St) (d:Nat),bH (aG prog) 76 [.agg (cH ⟨ns⟩),.v (.int .i64 (nd ns i).up)] st (some d)=some { dst:=some d,val:=.own d (st.aQ d),new:=some (d,[.row 3 1 (path ns (nd ns i).up).length (aM (path ns (nd ns i).up))])}:=fun st d=>jM (bB (lL _) (.v _)) hr
    have hl:((path ns (nd ns i).up).length:Int)<1000000:=by have:=Cl hu (nd ns i).up;omega
    simp only[ZZ,seval,XI,hd,hq,i0,i1,hc,hl];exact uK rfl (by simp only[EV,seval];rfl) (by simp only[EV,seval,jL hu (show 0<i by omega) i1]) (gG _)
def k76 (ns:List Node) (hu:fK ns) (hn:(ns.length:Int)<1000000) (i:Int) (i0:0<=i) (i1:i<ns.length) (st:St) (d:Nat):bH (aG prog) 76 [.agg (cH ⟨ns⟩),.v (.int .i64 i)] st (some d)=some { dst:=some d,val:=.own d (st.aQ d),new:=some (d,[.row 3 1 (path ns i).length (aM (path ns i))])}:=jM (bB (lL _) (.v _)) (c76 ns hu hn _ i rfl i0 i1)
def M3 (ns:List Node) (i:Int) (h:¬(0<=i/\i<ns.length)):KC 76 [.agg (cH ⟨ns⟩),.v (.int .i64 i)] (.v (.slice none 0 0)):=fun _ _=>bE (bB (lL _) (.v _)) (aOY ns i h) (.v _)
def lW (ns:List Node) (a b:Int):Bool:=decide (a∈path ns b)
def c47 (ns:List Node) (hu:fK ns) (hn:(ns.length:Int)<1000000) (a b:Int):aG prog 47 [.agg (cH ⟨ns⟩),.v (.int .i64 a),.v (.int .i64 b)]=some (.v (.bool (lW ns a b))):=by
 rw[cL func47 rfl rfl];by_cases hb:0<=b/\b<ns.length
 ·have hl:((path ns b).length:Int)<1000000:=by have:=Cl hu b;omega
  simp only[ZZ,seval,k76 ns hu hn b hb.1 hb.2,q49,k49,hl];exact bT rfl (by simp only[EV,seval,lW]) (.v _)
 ·simp only[ZZ,seval,M3 ns b hb,q49,aOX];exact bT rfl (by simp only[EV,seval,lW,tV hb,not_mem_nil,decide_false]) (.v _)
def Qh (ns:List Node) (hu:fK ns) (hn:(ns.length:Int)<1000000) (a b:Int):KC 47 [.agg (cH ⟨ns⟩),.v (.int .i64 a),.v (.int .i64 b)] (.v (.bool (lW ns a b))):=fun _ _=>bE (mM (lL _) (.v _) (.v _)) (c47 ns hu hn a b) (.v _)
def aDP:Flat (.agg [.v (.slice none 0 0)]):=.agg _ (by simp;exact .v _)
def Ek (x m:Int) (hm:0<=m/\m<9223372036854775808):0<=i64.wrap ↑(BitVec.ofInt i64.bits x &&& BitVec.ofInt i64.bits m).toNat/\i64.wrap ↑(BitVec.ofInt i64.bits x &&& BitVec.ofInt i64.bits m).toNat<=m:=by
 have h0:(BitVec.ofInt i64.bits x &&& BitVec.ofInt i64.bits m).toNat<=(BitVec.ofInt i64.bits m).toNat:=by rw[BitVec.toNat_and];exact Nat.and_le_right
 have hb:i64.bits=64:=rfl
 have h:(BitVec.ofInt i64.bits (m:Int)).toNat=m.toNat:=by
  rw[BitVec.toNat_ofInt,hb];omega
 rw[h] at h0;rw[Ej _ (by omega) (by omega)]
 omega
def YC {i n:Int} (h:0<=i) (hn:0<n):0<=i.tdiv n/\i.tdiv n<=i:=by
 rw[Int.tdiv_eq_ediv_of_nonneg h];exact⟨Int.ediv_nonneg h (by omega),Int.ediv_le_self n h⟩
def cU {i n:Int} (h:0<=i) (hn:0<n):0<=i.tmod n/\i.tmod n<n:=by
 rw[Int.tmod_eq_emod_of_nonneg h];exact⟨Int.emod_nonneg i (by omega),Int.emod_lt_of_pos i hn⟩
def Cm {i:Int} (h:0<=i) (s:Nat):0<=i.fdiv (2 ^ s):=by
 have h2:(0:Int)<=2 ^ s:=Int.pow_nonneg (by decide)
 rw[Int.fdiv_eq_ediv_of_nonneg _ h2];exact Int.ediv_nonneg h h2
def aLq (l:List Int) (hl:(l.length:Int)<=9223372036854775807) (i:Int) (i0:0<=i) (i1:i<1000000):∃k:Int,aG prog 145 [.sl l.length (aM l),.v (.int .i64 i)]=some (.v (.int .i64 k))/\0<=k/\k<=17777215:=by
 rw[cL func145 rfl rfl];by_cases h:(l.length:Int)=0
 ·have hq:((l.length:Int) == 0)=true:=by simp[h]
  simp only[ZZ,seval,hq];obtain⟨b1,b2⟩:=Ek i 65535 (by decide)
  exact⟨_,bT rfl (by simp only[EV,seval]<;>rfl) (.v _),b1,by omega⟩
 ·have hq:((l.length:Int) == 0)=false:=by rw[beq_eq_false_iff_ne];exact h
  obtain⟨m1,m2⟩:=cU (n:=(l.length:Int)) i0 (by omega)
  obtain⟨d1,d2⟩:=YC (n:=(l.length:Int)) i0 (by omega)
  simp only[ZZ,seval,hq,h,m1,m2];obtain⟨b1,b2⟩:=Ek (it l (i.tmod ↑l.length)) 16777215 (by decide)
  refine⟨_,bT rfl (by simp only[EV,seval]<;>rfl) (.v _), ?_, ?_⟩
  all_goals
   rw[Ej (i.tdiv ↑l.length) (by omega) (by omega),Ej _ (by omega) (by omega)]
   omega
def Ms (l:List Int) (i:Int):Int:=if h:((l.length:Int)<=9223372036854775807/\0<=i/\i<1000000) then Classical.choose (aLq l h.1 i h.2.1 h.2.2) else 0
def Je (l:List Int) (hl:(l.length:Int)<=9223372036854775807) (i:Int) (i0:0<=i) (i1:i<1000000):aG prog 145 [.sl l.length (aM l),.v (.int .i64 i)]=some (.v (.int .i64 (Ms l i)))/\0<=Ms l i/\Ms l i<=17777215:=by
 have h:((l.length:Int)<=9223372036854775807/\0<=i/\i<1000000):=⟨hl,i0,i1⟩
 unfold Ms;rw[dif_pos h];exact Classical.choose_spec (aLq l h.1 i h.2.1 h.2.2)
def Qt (l:List Int) (hl:(l.length:Int)<=9223372036854775807) (i:Int) (i0:0<=i) (i1:i<1000000):KC 145 [.sl l.length (aM l),.v (.int .i64 i)] (.v (.int .i64 (Ms l i))):=fun _ _=>bE (bB (Ud l) (.v _)) (Je l hl i i0 i1).1 (.v _)
def mkRoot (n:Int):cC:=((cO.set 0 (u8.wrap n)).set 1 (u8.wrap (n.fdiv (2 ^ min 8 i64.bits)))).set 31 (u8.wrap (i64.wrap (n * 7)))
def c30 (n:Int):aG prog 30 [.v (.int .i64 n)]=some (.agg (bC (mkRoot n))):=by
 rw[cL func30 rfl rfl];simp only[ZZ,seval,AF,Nat.reduceLT];exact fM rfl (by simp only[EV,seval];rfl) (by simp only[ZZ,seval];rfl) (.agg _ (dY _))
def Tw (n:Int):KC 30 [.v (.int .i64 n)] (.agg (bC (mkRoot n))):=fun _ _=>bE (cP (.v _)) (c30 n) (rH _)
def aOZ (b:Block) (s:Int):aG prog 157 [.agg (aU b),.v (.int .i64 s)]=some (.agg (cH ⟨[⟨b,-1,s⟩]⟩)):=by
 rw[cL func157 rfl rfl];simp only[ZZ,seval];exact eG rfl (by simp only[EV,seval];rfl) (by simp only[ZZ,seval];rfl) (by simp only[EV,seval,aAo]<;>rfl)
def aO0 (b:Block) (s:Int):KC 157 [.agg (aU b),.v (.int .i64 s)] (.agg (cH ⟨[⟨b,-1,s⟩]⟩)):=fun _ _=>bE (bB (tW _) (.v _)) (aOZ b s) (lL _)
def Og (i:Int):KC 186 [.v (.int .i64 i)] (.v (.bool (Ub i))):=fun _ _=>bE (cP (.v _)) (aOW i) (.v _)
def lY (ns:List Node) (r:cC) (hn:(ns.length:Int)<1000000):KC 46 [.agg (cH ⟨ns⟩),.agg (bC r)] (.v (.int .i64 (aC ns r))):=fun _ _=>bE (bB (lL _) (rH _)) (c46 ns r hn) (.v _)
def FL (ns:List Node) (b:Block) (s:Int):Int :=
 if Ub s=false then 2 else if 0<=aC ns b.root then 9 else if aC ns b.parent<0 then 10 else if b.slot<=(nd ns (aC ns b.parent)).block.slot then 14 else if 4096<=(ns.length:Int) then 11 else 0
def Jf (ns:List Node) (b:Block) (s:Int):AV :=
 if FL ns b s=0 then .eH [.agg (cH ⟨ns++[⟨b,aC ns b.parent,s⟩]⟩),.v (.int .i64 0)] else .eH [.agg [.v (.slice none 0 0)],.v (.int .i64 (FL ns b s))]
def cS (ns:List Node) (r:cC):-1<=aC ns r/\aC ns r<ns.length:=by
 unfold aC;cases h:ns.findIdx? (fun n=>decide (n.block.root=r)) with
 | none=>simp only;omega
 | some k =>
   have:=(findIdx?_eq_some_iff_getElem.1 h).1
   simp only;omega
def aO1 (ns:List Node) (hn:(ns.length:Int)<1000000) (b:Block) (s:Int):aG prog 149 [.agg (cH ⟨ns⟩),.agg (aU b),.v (.int .i64 s)]=some (Jf ns b s):=by
 rw[cL func149 rfl rfl];have hu:=cS ns b.parent
 cases hs:Ub s
 ·simp only[ZZ,seval,Og,hs];rw[show Jf ns b s=.eH [.agg [.v (.slice none 0 0)],.v (.int .i64 2)] from by simp[Jf,FL,hs]]
  exact dN rfl (by simp only[bY,ZZ,seval];rfl) (by simp only[bY,EV,seval]<;>rfl) (by simp only[EV,seval]<;>rfl) (by simp only[EV,seval]<;>rfl)
 by_cases h1:0<=aC ns b.root
 ·simp only[ZZ,seval,Og,hs,lY,hn,h1];rw[show Jf ns b s=.eH [.agg [.v (.slice none 0 0)],.v (.int .i64 9)] from by simp[Jf,FL,hs,h1]]
  exact dN rfl (by simp only[bY,ZZ,seval];rfl) (by simp only[bY,EV,seval]<;>rfl) (by simp only[EV,seval]<;>rfl) (by simp only[EV,seval]<;>rfl)
 by_cases h2:aC ns b.parent<0
 ·simp only[ZZ,seval,Og,hs,lY,hn,h1,h2];rw[show Jf ns b s=.eH [.agg [.v (.slice none 0 0)],.v (.int .i64 10)] from by simp[Jf,FL,hs,h1,h2]]
  exact dN rfl (by simp only[bY,ZZ,seval];rfl) (by simp only[bY,EV,seval]<;>rfl) (by simp only[EV,seval]<;>rfl) (by simp only[EV,seval]<;>rfl)
 have u0:0<=aC ns b.parent:=by omega
 have u1:aC ns b.parent<ns.length:=hu.2
 by_cases h3:b.slot<=(nd ns (aC ns b.parent)).block.slot
 ·simp only[ZZ,seval,Og,hs,lY,hn,h1,h2,u0,u1,h3];rw[show Jf ns b s=.eH [.agg [.v (.slice none 0 0)],.v (.int .i64 14)] from by simp[Jf,FL,hs,h1,h2,h3]]
  exact dN rfl (by simp only[bY,ZZ,seval];rfl) (by simp only[bY,EV,seval]<;>rfl) (by simp only[EV,seval]<;>rfl) (by simp only[EV,seval]<;>rfl)
 by_cases h4:4096<=(ns.length:Int)
 ·simp only[ZZ,seval,Og,hs,lY,hn,h1,h2,u0,u1,h3,h4];rw[show Jf ns b s=.eH [.agg [.v (.slice none 0 0)],.v (.int .i64 11)] from by simp[Jf,FL,hs,h1,h2,h3,h4]]
  exact dN rfl (by simp only[bY,ZZ,seval];rfl) (by simp only[bY,EV,seval]<;>rfl) (by simp only[EV,seval]<;>rfl) (by simp only[EV,seval]<;>rfl)
 ·simp only[ZZ,seval,Og,hs,lY,hn,h1,h2,u0,u1,h3,h4];rw[show Jf ns b s=.eH [.agg (cH ⟨ns++[⟨b,aC ns b.parent,s⟩]⟩),.v (.int .i64 0)] from by simp[Jf,FL,hs,h1,h2,h3,h4]]
  exact dN rfl (by simp only[bY,ZZ,seval];rfl) (by simp only[bY,EV,seval]<;>rfl) (by simp only[EV,seval]<;>rfl) (by simp only[EV,seval]<;>rfl)
def M4 (ns:List Node) (b:Block) (s:Int):Flat (Jf ns b s):=by
 unfold Jf;split
 ·exact .eH _ (bB (lL _) (.v _))
 ·exact .eH _ (bB aDP (.v _))
def aO2 (ns:List Node) (hn:(ns.length:Int)<1000000) (b:Block) (s:Int):KC 149 [.agg (cH ⟨ns⟩),.agg (aU b),.v (.int .i64 s)] (Jf ns b s):=fun _ _=>bE (mM (lL _) (tW _) (.v _)) (aO1 ns hn b s) (M4 ns b s)
def aO3 (n:Int):aG prog 188 [.v (.int .u64 n)]=some (.v (.bool (decide (1<=n) && decide (n<=64)))):=by
 rw[cL func188 rfl rfl];by_cases h:1<=n
 all_goals
  simp only[Z8,seval,h,decide_true,decide_false,Bool.true_and,Bool.false_and];exact bT rfl (by simp only[E8,seval,h,decide_true,decide_false,Bool.true_and,Bool.false_and]<;>rfl) (.v _)
def aLr (n:Int):KC 188 [.v (.int .u64 n)] (.v (.bool (decide (1<=n) && decide (n<=64)))):=fun _ _=>bE (cP (.v _)) (aO3 n) (.v _)
def AG (a b:Int):Int × Int:=if b≠0/\u64.wrap (Int.tdiv 18446744073709551615 b)<a then (0,4) else (u64.wrap (a * b),0)
def aO4 (a b:Int):aG prog 189 [.v (.int .u64 a),.v (.int .u64 b)]=some (.eH [.v (.int .u64 (AG a b).1),.v (.int .i64 (AG a b).2)]):=by
 rw[cL func189 rfl rfl];unfold AG;by_cases h:b=0
 ·rw[if_neg (fun k=>k.1 h)]
  have hb:(b != 0)=false:=by simp[h]
  simp only[Z8,seval,hb];exact dN rfl rfl rfl (by simp only[E8,seval]<;>rfl) (by simp only[E8,seval]<;>rfl)
 ·have hb:(b != 0)=true:=by simp[h]
  have E6:(b=0)=False:=eq_false h
  by_cases h2:u64.wrap (Int.tdiv 18446744073709551615 b)<a
  ·rw[if_pos ⟨h,h2⟩];simp only[Z8,seval,hb,E6,h2];exact dN rfl rfl rfl (by simp only[E8,seval]<;>rfl) (by simp only[E8,seval]<;>rfl)
  ·rw[if_neg (fun k=>h2 k.2)]
   simp only[Z8,seval,hb,E6,h2];exact dN rfl rfl rfl (by simp only[E8,seval]<;>rfl) (by simp only[E8,seval]<;>rfl)
def aO5 (a b:Int):KC 189 [.v (.int .u64 a),.v (.int .u64 b)] (.eH [.v (.int .u64 (AG a b).1),.v (.int .i64 (AG a b).2)]):=fun _ _=>bE (bB (.v _) (.v _)) (aO4 a b) (.eH _ (bB (.v _) (.v _)))
def Mt (e p:Int):Int × Int:=if 1<=p/\p<=64 then AG e p else (0,3)
def aO6 (e p:Int):aG prog 155 [.v (.int .u64 e),.v (.int .u64 p)]=some (.eH [.v (.int .u64 (Mt e p).1),.v (.int .i64 (Mt e p).2)]):=by
 rw[cL func155 rfl rfl];unfold Mt;by_cases h:1<=p/\p<=64
 ·have h1:(decide (1<=p) && decide (p<=64))=true:=by simp[h]
  rw[if_pos h];simp only[Z8,seval,aLr,h1,aO5,dR];exact dN rfl rfl rfl (by simp only[E8,seval]<;>rfl) (by simp only[E8,seval]<;>rfl)
 ·have h1:(decide (1<=p) && decide (p<=64))=false:=by
   rw[Bool.eq_false_iff];intro k;simp at k;exact h k
  rw[if_neg h];simp only[Z8,seval,aLr,h1];exact dN rfl rfl rfl (by simp only[E8,seval]<;>rfl) (by simp only[E8,seval]<;>rfl)
def aO7 (e p:Int):KC 155 [.v (.int .u64 e),.v (.int .u64 p)] (.eH [.v (.int .u64 (Mt e p).1),.v (.int .i64 (Mt e p).2)]):=fun _ _=>bE (bB (.v _) (.v _)) (aO6 e p) (.eH _ (bB (.v _) (.v _)))
def aO8 (n a b:Int):aG prog 156 [.v (.int .i64 n),.v (.int .i64 a),.v (.int .i64 b)]=some (.v (.bool (decide (a<=n) && decide (n<=b)))):=by
 rw[cL func156 rfl rfl];by_cases h:a<=n
 all_goals
  simp only[Z8,seval,h,decide_true,decide_false,Bool.true_and,Bool.false_and];exact bT rfl (by simp only[E8,seval,h,decide_true,decide_false,Bool.true_and,Bool.false_and]<;>rfl) (.v _)
def aO9 (n a b:Int):KC 156 [.v (.int .i64 n),.v (.int .i64 a),.v (.int .i64 b)] (.v (.bool (decide (a<=n) && decide (n<=b)))):=fun _ _=>bE (mM (.v _) (.v _) (.v _)) (aO8 n a b) (.v _)
def FM (a b:Int):Int × Int:=if u64.wrap (18446744073709551615-b)<a then (0,4) else (u64.wrap (a+b),0)
def aPa (a b:Int):aG prog 196 [.v (.int .u64 a),.v (.int .u64 b)]=some (.eH [.v (.int .u64 (FM a b).1),.v (.int .i64 (FM a b).2)]):=by
 rw[cL func196 rfl rfl];unfold FM;by_cases h:u64.wrap (18446744073709551615-b)<a
 ·rw[if_pos h];simp only[Z8,seval,h];exact dN rfl rfl rfl (by simp only[E8,seval]<;>rfl) (by simp only[E8,seval]<;>rfl)
 ·rw[if_neg h];simp only[Z8,seval,h];exact dN rfl rfl rfl (by simp only[E8,seval]<;>rfl) (by simp only[E8,seval]<;>rfl)
def aHv (a b:Int):KC 196 [.v (.int .u64 a),.v (.int .u64 b)] (.eH [.v (.int .u64 (FM a b).1),.v (.int .i64 (FM a b).2)]):=fun _ _=>bE (bB (.v _) (.v _)) (aPa a b) (.eH _ (bB (.v _) (.v _)))
def HW (l:List Int):∀c∈bF l,iE c:=by rw[PV];intro c hc;obtain⟨x,_,rfl⟩:=mem_map.1 hc;exact .v _
def aPb (ns:List Node) (i:Int):aG prog 154 [.agg (cH ⟨ns⟩),.v (.int .i64 i)]=some (.v (.bool (decide (0<=i) && decide (i<ns.length)))):=by
 rw[cL func154 rfl rfl];by_cases h:0<=i
 all_goals
  simp only[ZZ,seval,h,decide_true,decide_false,Bool.false_eq_true,Bool.true_and,Bool.false_and];exact bT rfl (by simp only[EV,seval]) (.v _)
def aHw (ns:List Node) (i:Int):KC 154 [.agg (cH ⟨ns⟩),.v (.int .i64 i)] (.v (.bool (decide (0<=i) && decide (i<ns.length)))):=fun _ _=>bE (bB (lL _) (.v _)) (aPb ns i) (.v _)
def nH {ns:List Node} (h:fK ns) {i:Int} (i0:0<=i) (i1:i<ns.length):i∈path ns i:=by
 by_cases hi:i=0
 ·subst hi;rw[mG (by omega)];simp
 ·rw[jL h (by omega) i1];simp
def Qu {ns:List Node} (h:fK ns):∀(k:Nat) (i:Int),i.toNat=k->0<=i->i<ns.length->∀x∈path ns i,0<=x/\x<=i:=by
 intro k;induction k using Nat.strongRecOn with
 | _ k ih =>
   intro i hk i0 i1 x hx;by_cases hi:i=0
   ·subst hi;rw[mG (by omega)] at hx;simp at hx;omega
   ·obtain⟨u0,u1⟩:=h i (by omega) i1
    rw[jL h (by omega) i1] at hx
    rcases mem_append.1 hx with hx|hx
    ·have:=ih (nd ns i).up.toNat (by omega) _ rfl u0 (by omega) x hx
     omega
    ·simp at hx;omega
def rI {ns:List Node} (h:fK ns) {i x:Int} (hx:x∈path ns i):0<=x/\x<ns.length:=by
 by_cases hi:0<=i/\i<ns.length
 ·have:=Qu h _ i rfl hi.1 hi.2 x hx;omega
 ·rw[tV hi] at hx;simp at hx
def Dl (ns:List Node) (s:Int) (l:List Int):Int:=l.foldl (fun r x=>if (nd ns x).block.slot<=s then x else r) (-1)
def HX (ns:List Node) (i s:Int):Int:=Dl ns s (path ns i)
def AH (ns:List Node) (s:Int) (l:List Int) (x:Int):Dl ns s (l++[x])=if (nd ns x).block.slot<=s then x else Dl ns s l:=by simp[Dl]
def PW {ns:List Node} {i:Int} (s:Int) (h:¬(0<=i/\i<ns.length)):HX ns i s=-1:=by unfold HX;rw[tV h];rfl
def aDQ {l:List Int} {j:Int} (j0:0<=j) (j1:j<l.length):l.take (j+1).toNat=l.take j.toNat++[it l j]:=by
 obtain⟨h,e⟩:=yR j0 j1
 rw[e,show (j+1).toNat=j.toNat+1 by omega,take_succ_eq_append_getElem h]
def Gu {l:List Int} {j:Int} (j0:0<=j) (j1:j<l.length):it l j∈l:=by
 obtain⟨h,e⟩:=yR j0 j1
 rw[e];exact getElem_mem h
def aPc (ns:List Node) (hu:fK ns) (hn:(ns.length:Int)<1000000) (i s:Int):aG prog 100 [.agg (cH ⟨ns⟩),.v (.int .i64 i),.v (.int .u64 s)]=some (.v (.int .i64 (HX ns i s))):=by
 rw[cL func100 rfl rfl];by_cases hv:0<=i/\i<ns.length
 ·have hl:((path ns i).length:Int)<1000000:=by have:=Cl hu i;omega
  have hp:=k76 ns hu hn i hv.1 hv.2
  have hrg:∀x∈path ns i,0<=x/\x<ns.length:=fun x=>rI hu
  unfold HX;generalize path ns i=p at hl hp hrg
  simp only[ZZ,seval,hp];refine jK (fun n st=>∃j:Int,st.env 2=.v (.int .u64 s)/\st.env 3=.ptr 3 0 0/\st.heap 3 0=some (.cells (cH ⟨ns⟩))/\st.env 8=.own 12 0/\st.heap 12 0=some (.row 3 1 p.length (aM p))/\st.env 9=.v (.int .i64 j)/\st.env 7=.v (.int .i64 (Dl ns s (p.take j.toNat)))/\0<=j/\j<=p.length/\n=(p.length-j).toNat)
   (fun e st=>e=.exit 0/\st.env 7=.v (.int .i64 (Dl ns s p))) p.length ?step ?start ?rest
  case step =>
   rintro n st ⟨j,h2,h3,KS,h8,hh8,h9,h7,j0,j1,Hu⟩
   by_cases aW:j<p.length
   ·have hw:i64.wrap (j+1)=j+1:=Ej _ (by omega) (by omega)
    obtain⟨x0,x1⟩:=hrg _ (Gu j0 aW)
    have ht:=aDQ j0 aW
    by_cases hs:(nd ns (it p j)).block.slot<=s
    ·apply oN ((p.length-(j+1)).toNat)
     ·simp only[ZZ,seval,h2,h3,KS,h8,hh8,h9,aW,j0,hw,x0,x1,hs];rfl
     ·exact⟨j+1,by simp only[EV,seval,h2],by simp only[EV,seval,h3],by simp only[EV,seval,KS],by simp only[EV,seval,h8],by simp only[EV,seval,hh8],(by simp only[EV,seval]),by simp only[EV,seval,ht,AH,hs],by omega,by omega,rfl⟩
    ·apply oN ((p.length-(j+1)).toNat)
     ·simp only[ZZ,seval,h2,h3,KS,h8,hh8,h9,aW,j0,hw,x0,x1,hs];rfl
     ·exact⟨j+1,by simp only[EV,seval,h2],by simp only[EV,seval,h3],by simp only[EV,seval,KS],by simp only[EV,seval,h8],by simp only[EV,seval,hh8],(by simp only[EV,seval]),by simp only[EV,seval,ht,AH,hs,h7],by omega,by omega,rfl⟩
   ·have ht:p.take j.toNat=p:=take_of_length_le (by omega)
    apply oT (.exit 0)
    ·simp only[ZZ,seval,h2,h3,KS,h8,hh8,h9,aW,j0];rfl
    ·exact⟨rfl,by rw[<- ht];exact h7⟩
  case start=>exact⟨0,(by simp only[EV,seval]),(by simp only[EV,seval]),(by simp only[EV,seval]),(by simp only[EV,seval]),(by simp only[EV,seval]),(by simp only[EV,seval]),(by simp only[EV,seval];rfl),by omega,by omega,by omega⟩
  case rest =>
   rintro e st ⟨rfl,h⟩
   simp only[ZZ,seval,h];exact bT rfl (by simp only[EV,seval]) (.v _)
 ·rw[PW s hv];simp only[ZZ,seval,M3 ns i hv,Jd,Int.natCast_zero,Int.lt_irrefl,decide_false];exact bT rfl (by simp only[EV,seval]) (.v _)
def PX (ns:List Node) (hu:fK ns) (hn:(ns.length:Int)<1000000) (i s:Int):KC 100 [.agg (cH ⟨ns⟩),.v (.int .i64 i),.v (.int .u64 s)] (.v (.int .i64 (HX ns i s))):=fun _ _=>bE (mM (lL _) (.v _) (.v _)) (aPc ns hu hn i s) (.v _)
def aDR {ns:List Node} (hu:fK ns) {a c:Int} (h0:0<=c) (h1:c<ns.length) (h:¬a<c):lW ns a c=decide (a=c):=by
 unfold lW;rw[decide_eq_decide];constructor
 ·intro hm;have:=Qu hu _ c rfl h0 h1 a hm;omega
 ·rintro rfl;exact nH hu h0 h1
def AI {ns:List Node} (hu:fK ns) {a c:Int} (h1:c<ns.length) (h:a<c) (a0:0<=a):lW ns a c=lW ns a (nd ns c).up:=by
 unfold lW;rw[decide_eq_decide,jL hu (by omega) h1]
 simp only[mem_append,mem_singleton];constructor
 ·rintro (hm|rfl)
  ·exact hm
  ·omega
 ·exact .inl
def HY {ns:List Node} (hu:fK ns) {a c:Int} (h:¬((0<=a/\a<ns.length)/\(0<=c/\c<ns.length))):lW ns a c=false:=by
 unfold lW;rw[decide_eq_false_iff_not];intro hm;by_cases hc:0<=c/\c<ns.length
 ·exact h ⟨rI hu hm,hc⟩
 ·rw[tV hc] at hm;simp at hm
def aPd (ns:List Node) (hu:fK ns) (a b:Int):aG prog 121 [.agg (cH ⟨ns⟩),.v (.int .i64 a),.v (.int .i64 b)]=some (.v (.bool (lW ns a b))):=by
 rw[cL func121 rfl rfl];by_cases hv:(0<=a/\a<ns.length)/\(0<=b/\b<ns.length)
 ·have hda:(decide (0<=a) && decide (a<ns.length))=true:=by simp[hv.1.1,hv.1.2]
  have hdb:(decide (0<=b) && decide (b<ns.length))=true:=by simp[hv.2.1,hv.2.2]
  simp only[ZZ,seval,aHw,hda,hdb];refine jK (fun n st=>∃c:Int,st.env 1=.v (.int .i64 a)/\st.env 2=.v (.int .i64 c)/\st.env 3=.ptr 3 0 0/\st.heap 3 0=some (.cells (cH ⟨ns⟩))/\lW ns a b=lW ns a c/\0<=c/\c<ns.length/\n=c.toNat)
   (fun e st=>e=.exit 0/\∃c:Int,st.env 1=.v (.int .i64 a)/\st.env 2=.v (.int .i64 c)/\lW ns a b=decide (a=c)) b.toNat ?step ?start ?rest
  case step =>
   rintro n st ⟨c,h1,h2,h3,KS,hb,c0,c1,Hu⟩
   by_cases aW:a<c
   ·obtain⟨u0,u1⟩:=hu c (by omega) c1
    apply oN (((nd ns c).up).toNat)
    ·simp only[ZZ,seval,h1,h2,h3,KS,aW,c0,c1];rfl
    ·exact⟨(nd ns c).up,by simp only[EV,seval,h1],(by simp only[EV,seval]),by simp only[EV,seval,h3],by simp only[EV,seval,KS],hb.trans (AI hu c1 aW hv.1.1),u0,by omega,rfl⟩
   ·apply oT (.exit 0)
    ·simp only[ZZ,seval,h1,h2,h3,KS,aW];rfl
    ·exact⟨rfl,c,by simp only[EV,seval,h1],by simp only[EV,seval,h2],hb.trans (aDR hu c0 c1 aW)⟩
  case start=>exact⟨b,(by simp only[EV,seval]),(by simp only[EV,seval]),(by simp only[EV,seval]),(by simp only[EV,seval]),rfl,hv.2.1,hv.2.2,rfl⟩
  case rest =>
   rintro e st ⟨rfl,c,h1,h2,h⟩
   have hbq:(a == c)=decide (a=c):=rfl
   simp only[ZZ,seval,h1,h2];exact bT rfl (by simp only[EV,seval,h,hbq]) (.v _)
 ·rw[HY hu hv];by_cases ha:0<=a/\a<ns.length
  ·have hda:(decide (0<=a) && decide (a<ns.length))=true:=by simp[ha.1,ha.2]
   have hdb:(decide (0<=b) && decide (b<ns.length))=false:=by rw[<- Bool.not_eq_true];simpa using fun h h'=>hv ⟨ha,h,h'⟩
   simp only[ZZ,seval,aHw,hda,hdb];exact bT rfl (by simp only[EV,seval]) (.v _)
  ·have hda:(decide (0<=a) && decide (a<ns.length))=false:=by rw[<- Bool.not_eq_true];simpa using ha
   simp only[ZZ,seval,aHw,hda];exact bT rfl (by simp only[EV,seval]) (.v _)
def YD (ns:List Node) (hu:fK ns) (a b:Int):KC 121 [.agg (cH ⟨ns⟩),.v (.int .i64 a),.v (.int .i64 b)] (.v (.bool (lW ns a b))):=fun _ _=>bE (mM (lL _) (.v _) (.v _)) (aPd ns hu a b) (.v _)
def Aq {ns:List Node} (hu:fK ns) {a c:Int} (h:lW ns a c=true):(0<=a/\a<ns.length)/\(0<=c/\c<ns.length):=by
 by_cases hv:(0<=a/\a<ns.length)/\(0<=c/\c<ns.length)
 ·exact hv
 ·rw[HY hu hv] at h;cases h
def Ue {ns:List Node} (hu:fK ns) {a c:Int} (h:lW ns a c=true):a<=c:=by
 have hr:=(Aq hu h).2
 unfold lW at h;exact (Qu hu _ c rfl hr.1 hr.2 a (of_decide_eq_true h)).2
def aPf (a b:List Node) (hn:(a.length:Int)<1000000):aG prog 106 [.agg (cH ⟨a⟩),.agg (cH ⟨b⟩)]=some (.v (.bool (decide (a=b)))):=by
 rw[cL func106 rfl rfl];by_cases hlen:a.length=b.length
 ·have hq:((a.length:Int) != (b.length:Int))=false:=by simp[hlen]
  simp only[ZZ,seval,hq];refine jK (fun n st=>∃i:Int,st.env 2=.ptr 2 0 0/\st.env 3=.ptr 3 0 0/\st.heap 2 0=some (.cells (cH ⟨a⟩))/\st.heap 3 0=some (.cells (cH ⟨b⟩))/\st.env 5=.v (.int .i64 i)/\0<=i/\i<=a.length/\n=(a.length-i).toNat/\∀j,0<=j->j<i->nd a j=nd b j)
   (fun e st=>(e=.ret/\st.env 4=.v (.bool (decide (a=b))))\/(e=.exit 0/\decide (a=b)=true)) a.length ?step ?start ?rest
  case step =>
   rintro n st ⟨i,h2,h3,vP,KS,h5,i0,i1,Hu,hb⟩
   by_cases aW:i<a.length
   ·have hw:i64.wrap (i+1)=i+1:=Ej _ (by omega) (by omega)
    have Ij:i<b.length:=by omega
    by_cases hr:nd a i=nd b i
    ·have hbq:decide (nd a i=nd b i)=true:=by simp[hr]
     apply oN ((a.length-(i+1)).toNat)
     ·simp only[ZZ,seval,h2,h3,vP,KS,h5,aW,Ij,i0,hbq,hw];rfl
     ·exact⟨i+1,by simp only[EV,seval,h2],by simp only[EV,seval,h3],by simp only[EV,seval,vP],by simp only[EV,seval,KS],(by simp only[EV,seval]),by omega,by omega,rfl,fun j j0 j1=>by
      rcases Int.lt_or_eq_of_le (show j<=i by omega) with h|rfl
      ·exact hb j j0 h
      ·exact hr⟩
    ·have hbq:decide (nd a i=nd b i)=false:=by simp[hr]
     have hd:decide (a=b)=false:=by rw[decide_eq_false_iff_not];intro h;exact hr (by rw[h])
     apply oT (.ret)
     ·simp only[ZZ,seval,h2,h3,vP,KS,h5,aW,Ij,i0,hbq];rfl
     ·exact .inl ⟨rfl,by simp only[EV,seval,hd]⟩
   ·apply oT (.exit 0)
    ·simp only[ZZ,seval,h2,h3,vP,KS,h5,aW,i0];rfl
    ·exact .inr ⟨rfl,by
     rw[decide_eq_true_eq];apply ext_getElem hlen
     intro j h1 h2;have:=hb j (by omega) (by omega)
     simpa [nd,h1,h2] using this⟩
  case start=>exact⟨0,(by simp only[EV,seval]),(by simp only[EV,seval]),(by simp only[EV,seval]),(by simp only[EV,seval]),(by simp only[EV,seval]),by omega,by omega,by omega,fun j _ _=>by omega⟩
  case rest =>
   rintro e st (⟨rfl,h⟩|⟨rfl,h⟩)
   ·simp only[ZZ,seval];exact bT rfl h (.v _)
   ·simp only[ZZ,seval];exact bT rfl (by simp only[EV,seval,h]) (.v _)
 ·have hq:((a.length:Int) != (b.length:Int))=true:=by simp;omega
  have hd:decide (a=b)=false:=by rw[decide_eq_false_iff_not];intro h;exact hlen (by rw[h])
  simp only[ZZ,seval,hq];exact bT rfl (by simp only[EV,seval,hd]) (.v _)
def aPg (a b:List Node) (hn:(a.length:Int)<1000000):KC 106 [.agg (cH ⟨a⟩),.agg (cH ⟨b⟩)] (.v (.bool (decide (a=b)))):=fun _ _=>bE (bB (lL _) (lL _)) (aPf a b hn) (.v _)
def gN (ns:List Node) (i:Int):Nat->List Node × List Int
 | 0=>([],[])
 | k+1 =>
   let p:=gN ns i k
   if lW ns i k=true then (p.1++[{ nd ns k with up:=if (k:Int)=i then -1 else it p.2 (nd ns k).up }],p.2++[(p.1.length:Int)]) else (p.1,p.2++[-1])
def xH (ns:List Node) (i:Int):∀k,(gN ns i k).2.length=k
 | 0=>rfl
 | k+1=>by
   have:=xH ns i k
   simp only[gN];split<;>simp[this]
def Lh (ns:List Node) (i:Int):∀k,(gN ns i k).1.length<=k
 | 0=>Nat.le_refl _
 | k+1=>by
   have:=Lh ns i k
   simp only[gN];split
   ·simp;exact this
   ·simp;omega
def kY {l m:List Int} {j:Int} (h0:0<=j) (h1:j<l.length):it (l++m) j=it l j:=by
 have:j.toNat<l.length:=by omega
 simp[it,getElem?_append_left this]
def wF {l:List Int} {x:Int} {j:Int} (h:j=l.length):it (l++[x]) j=x:=by
 subst h;simp[it]
def mH {l m:List Node} {j:Int} (h0:0<=j) (h1:j<l.length):nd (l++m) j=nd l j:=by
 have:j.toNat<l.length:=by omega
 simp[nd,getElem?_append_left this]
def El {l:List Node} {x:Node} {j:Int} (h:j=l.length):nd (l++[x]) j=x:=by
 subst h;simp[nd]
def PY (ns:List Node) (i:Int):∀(k:Nat) (j:Int),0<=j->j<k->(0<=it (gN ns i k).2 j↔lW ns i j=true)
 | 0,j,_,h=>by omega
 | k+1,j,h0,h1=>by
   have hl:=xH ns i k
   by_cases hj:j<k
   ·have ih:=PY ns i k j h0 hj
    simp only[gN];split
    ·simp only;rw[kY h0 (by omega)];exact ih
    ·simp only;rw[kY h0 (by omega)];exact ih
   ·have hjk:j=k:=by omega
    subst hjk;simp only[gN];split
    ·rename_i h;simp only;rw[wF (by omega)];simp[h]
    ·rename_i h;simp only;rw[wF (by omega)];simp[h]
def Ar {ns:List Node} (hu:fK ns) {i:Int} (i0:0<=i) (i1:i<ns.length):lW ns i i=true:=by
 unfold lW;rw[decide_eq_true_eq];by_cases h:i=0
 ·subst h;rw[mG (by omega)];simp
 ·rw[jL hu (by omega) i1];simp
def PZ {ns:List Node} (hu:fK ns) {a i:Int} (i0:0<i) (i1:i<ns.length) (h:a≠i):lW ns a i=lW ns a (nd ns i).up:=by
 unfold lW;rw[jL hu i0 i1];simp[h]
def Qv {ns:List Node} {a:Int} (h:0<ns.length):lW ns a 0=decide (a=0):=by
 unfold lW;rw[mG h];simp
def aAg (ns:List Node) (hu:fK ns) {i:Int} (i0:0<=i) (i1:i<ns.length):(gN ns i ns.length).1≠[]:=by
 have main:∀k:Nat,i<k->k<=ns.length->(gN ns i k).1≠[]:=by
  intro k;induction k with
  | zero=>intro h;omega
  | succ k ih =>
    intro h1 h2;by_cases hk:i<k
    ·have:=ih hk (by omega)
     simp only[gN];split
     ·simp
     ·exact this
    ·have PH:i=k:=by omega
     have:lW ns i k=true:=by rw[<- PH];exact Ar hu i0 i1
     simp[gN,this]
 exact main ns.length i1 (Nat.le_refl _)
def aDS (st:St) (s1 s2:Nat) (y:AV) (l:List Int):Prop :=
 (y=.v (.slice none 0 0)/\l=[])\/(∃g,y=.own s1 g/\g<st.aQ s1/\st.heap s1 g=some (.row 3 1 l.length (aM l)))\/(∃g,y=.own s2 g/\g<st.aQ s2/\st.heap s2 g=some (.row 3 1 l.length (aM l)))
def aDT (st:St) (s1:Nat) (x:AV) (l:List Node):Prop :=
 (x=.v (.slice none 0 0)/\l=[])\/(∃g,x=.own s1 g/\g<st.aQ s1/\st.heap s1 g=some (.row 76 240 l.length (bV l)))
def c34 (ns:List Node) (hu:fK ns) (hn:(ns.length:Int)<1000000) (i:Int) (i0:0<=i) (i1:i<ns.length):aG prog 34 [.agg (cH ⟨ns⟩),.v (.int .i64 i)] =
 some (.eH [.agg (cH ⟨(gN ns i ns.length).1⟩),.sl (gN ns i ns.length).2.length (aM (gN ns i ns.length).2),.v (.int .i64 0)]):=by
 have hd:(decide (0<=i) && decide (i<ns.length))=true:=by simp[i0,i1]
 rw[cL func34 rfl rfl];simp only[ZZ,seval,XI,hd];refine jK (fun n st=>∃(k:Nat) (x y:AV),st.env 2=.ptr 2 0 0/\st.heap 2 0=some (.cells (cH ⟨ns⟩))/\st.env 4=.ptr 4 0 0/\st.heap 4 0=some (.cells [.v (.slice none 0 0)])/\st.env 7=.ptr 7 0 0/\st.heap 7 0=some (.cells [x]) /\
  st.env 1=.v (.int .i64 i)/\st.env 9=.v (.int .i64 k)/\k<=ns.length/\n=ns.length-k/\st.env 8=y/\aDS st 30 51 y (gN ns i k).2/\aDT st 56 x (gN ns i k).1)
  (fun e st=>e=.exit 0/\∃(x y:AV),st.env 4=.ptr 4 0 0/\st.heap 4 0=some (.cells [.v (.slice none 0 0)])/\st.env 7=.ptr 7 0 0/\st.heap 7 0=some (.cells [x])/\st.env 8=y/\aDS st 30 51 y (gN ns i ns.length).2/\aDT st 56 x (gN ns i ns.length).1) ns.length ?step ?start ?rest
 case step =>
  rintro n st ⟨k,x,y,h2,vP,h4,qD,h7,Ik,h1,h9,hk,Hu,h8,hy,hx⟩
  have hlen:=xH ns i k
  have aAh:=Lh ns i k
  have zL:((gN ns i k).2.length:Int)<1000000:=by omega
  have Xz:((gN ns i k).1.length:Int)<1000000:=by omega
  by_cases aW:(k:Int)<ns.length
  ·have hw:i64.wrap ((k:Int)+1)=((k+1:Nat):Int):=by rw[Ej _ (by omega) (by omega)];simp
   have k0:(0:Int)<=k:=by omega
   by_cases yS:lW ns i k=true
   ·have hs:gN ns i (k+1)=((gN ns i k).1++[{ nd ns k with up:=if (k:Int)=i then -1 else it (gN ns i k).2 (nd ns k).up }],(gN ns i k).2++[((gN ns i k).1.length:Int)]):=by simp only[gN,yS,if_true]
    have upb:(k:Int)≠i->0<=(nd ns k).up/\(nd ns k).up<(gN ns i k).2.length:=fun gJ=>by
     rcases Nat.eq_zero_or_pos k with h0|h0
     ·subst h0;rw[show ((0:Nat):Int)=0 from rfl,Qv (by omega)] at yS
      simp at yS
      omega
     ·have:=hu k (by omega) aW
      rw[hlen];omega
    by_cases PH:(k:Int)=i
    ·have hq:((k:Int) == i)=true:=by simp[PH]
     rw[if_pos PH] at hs;rcases hy with ⟨rfl,hy⟩|⟨g,rfl,hg,hy⟩|⟨g,rfl,hg,hy⟩<;>rcases hx with ⟨rfl,hx⟩|⟨g',rfl,PI,hx⟩
     ·rw[hy,hx] at hs;apply oN ((ns.length-(k+1)))
      ·simp only[ZZ,seval,h2,vP,h4,qD,h7,Ik,h1,h9,h8,aW,k0,Qh ns hu hn,yS,hw,hq];rfl
      ·exact⟨k+1,_,_,(by simp only[EV,seval,h2]),(by simp only[EV,seval,vP]),(by simp only[EV,seval,h4]),(by simp only[EV,seval,qD]),(by simp only[EV,seval,h7]),(by simp only[EV,seval];rfl),(by simp only[EV,seval,h1]),(by simp only[EV,seval]),by omega,by omega,(by simp only[EV,seval];rfl),(by rw[hs];(try simp only[nil_append]);exact .inr (.inr ⟨_,rfl,(by simp only[EV,seval]<;>omega),(by simp only[EV,seval]<;>rfl)⟩)),(by rw[hs];(try simp only[nil_append]);exact .inr ⟨_,rfl,(by simp only[EV,seval]<;>omega),(by simp only[EV,seval]<;>rfl)⟩)⟩
     ·rw[hy] at hs;apply oN ((ns.length-(k+1)))
      ·simp only[ZZ,seval,h2,vP,h4,qD,h7,Ik,h1,h9,h8,aW,k0,Qh ns hu hn,yS,hw,hq,hx,Xz];rfl
      ·exact⟨k+1,_,_,(by simp only[EV,seval,h2]),(by simp only[EV,seval,vP]),(by simp only[EV,seval,h4]),(by simp only[EV,seval,qD]),(by simp only[EV,seval,h7]),(by simp only[EV,seval];rfl),(by simp only[EV,seval,h1]),(by simp only[EV,seval]),by omega,by omega,(by simp only[EV,seval];rfl),(by rw[hs];(try simp only[nil_append]);exact .inr (.inr ⟨_,rfl,(by simp only[EV,seval]<;>omega),(by simp only[EV,seval]<;>rfl)⟩)),(by rw[hs];(try simp only[nil_append]);exact .inr ⟨_,rfl,(by simp only[EV,seval]<;>omega),(by simp only[EV,seval]<;>rfl)⟩)⟩
     ·rw[hx] at hs;apply oN ((ns.length-(k+1)))
      ·simp only[ZZ,seval,h2,vP,h4,qD,h7,Ik,h1,h9,h8,aW,k0,Qh ns hu hn,yS,hw,hq,hy,zL];rfl
      ·exact⟨k+1,_,_,(by simp only[EV,seval,h2]),(by simp only[EV,seval,vP]),(by simp only[EV,seval,h4]),(by simp only[EV,seval,qD]),(by simp only[EV,seval,h7]),(by simp only[EV,seval];rfl),(by simp only[EV,seval,h1]),(by simp only[EV,seval]),by omega,by omega,(by simp only[EV,seval];rfl),(by rw[hs];(try simp only[nil_append]);exact .inr (.inr ⟨_,rfl,(by simp only[EV,seval]<;>omega),(by simp only[EV,seval]<;>rfl)⟩)),(by rw[hs];(try simp only[nil_append]);exact .inr ⟨_,rfl,(by simp only[EV,seval]<;>omega),(by simp only[EV,seval]<;>rfl)⟩)⟩
     ·apply oN ((ns.length-(k+1)))
      ·simp only[ZZ,seval,h2,vP,h4,qD,h7,Ik,h1,h9,h8,aW,k0,Qh ns hu hn,yS,hw,hq,hy,zL,hx,Xz];rfl
      ·exact⟨k+1,_,_,(by simp only[EV,seval,h2]),(by simp only[EV,seval,vP]),(by simp only[EV,seval,h4]),(by simp only[EV,seval,qD]),(by simp only[EV,seval,h7]),(by simp only[EV,seval];rfl),(by simp only[EV,seval,h1]),(by simp only[EV,seval]),by omega,by omega,(by simp only[EV,seval];rfl),(by rw[hs];(try simp only[nil_append]);exact .inr (.inr ⟨_,rfl,(by simp only[EV,seval]<;>omega),(by simp only[EV,seval]<;>rfl)⟩)),(by rw[hs];(try simp only[nil_append]);exact .inr ⟨_,rfl,(by simp only[EV,seval]<;>omega),(by simp only[EV,seval]<;>rfl)⟩)⟩
     ·rw[hx] at hs;apply oN ((ns.length-(k+1)))
      ·simp only[ZZ,seval,h2,vP,h4,qD,h7,Ik,h1,h9,h8,aW,k0,Qh ns hu hn,yS,hw,hq,hy,zL];rfl
      ·exact⟨k+1,_,_,(by simp only[EV,seval,h2]),(by simp only[EV,seval,vP]),(by simp only[EV,seval,h4]),(by simp only[EV,seval,qD]),(by simp only[EV,seval,h7]),(by simp only[EV,seval];rfl),(by simp only[EV,seval,h1]),(by simp only[EV,seval]),by omega,by omega,(by simp only[EV,seval];rfl),(by rw[hs];(try simp only[nil_append]);exact .inr (.inr ⟨_,rfl,(by simp only[EV,seval]<;>omega),(by simp only[EV,seval]<;>rfl)⟩)),(by rw[hs];(try simp only[nil_append]);exact .inr ⟨_,rfl,(by simp only[EV,seval]<;>omega),(by simp only[EV,seval]<;>rfl)⟩)⟩
     ·apply oN ((ns.length-(k+1)))
      ·simp only[ZZ,seval,h2,vP,h4,qD,h7,Ik,h1,h9,h8,aW,k0,Qh ns hu hn,yS,hw,hq,hy,zL,hx,Xz];rfl
      ·exact⟨k+1,_,_,(by simp only[EV,seval,h2]),(by simp only[EV,seval,vP]),(by simp only[EV,seval,h4]),(by simp only[EV,seval,qD]),(by simp only[EV,seval,h7]),(by simp only[EV,seval];rfl),(by simp only[EV,seval,h1]),(by simp only[EV,seval]),by omega,by omega,(by simp only[EV,seval];rfl),(by rw[hs];(try simp only[nil_append]);exact .inr (.inr ⟨_,rfl,(by simp only[EV,seval]<;>omega),(by simp only[EV,seval]<;>rfl)⟩)),(by rw[hs];(try simp only[nil_append]);exact .inr ⟨_,rfl,(by simp only[EV,seval]<;>omega),(by simp only[EV,seval]<;>rfl)⟩)⟩
    ·have hq:((k:Int) == i)=false:=by simp[PH]
     obtain⟨u0,u1⟩:=upb PH
     rw[if_neg PH] at hs;rcases hy with ⟨rfl,hy⟩|⟨g,rfl,hg,hy⟩|⟨g,rfl,hg,hy⟩<;>rcases hx with ⟨rfl,hx⟩|⟨g',rfl,PI,hx⟩
     ·exfalso;rw[hy] at u1;simp at u1;omega
     ·exfalso;rw[hy] at u1;simp at u1;omega
     ·rw[hx] at hs;apply oN ((ns.length-(k+1)))
      ·simp only[ZZ,seval,h2,vP,h4,qD,h7,Ik,h1,h9,h8,aW,k0,Qh ns hu hn,yS,hw,hq,u0,u1,hy,zL];rfl
      ·exact⟨k+1,_,_,(by simp only[EV,seval,h2]),(by simp only[EV,seval,vP]),(by simp only[EV,seval,h4]),(by simp only[EV,seval,qD]),(by simp only[EV,seval,h7]),(by simp only[EV,seval];rfl),(by simp only[EV,seval,h1]),(by simp only[EV,seval]),by omega,by omega,(by simp only[EV,seval];rfl),(by rw[hs];(try simp only[nil_append]);exact .inr (.inr ⟨_,rfl,(by simp only[EV,seval]<;>omega),(by simp only[EV,seval]<;>rfl)⟩)),(by rw[hs];(try simp only[nil_append]);exact .inr ⟨_,rfl,(by simp only[EV,seval]<;>omega),(by simp only[EV,seval]<;>rfl)⟩)⟩
     ·apply oN ((ns.length-(k+1)))
      ·simp only[ZZ,seval,h2,vP,h4,qD,h7,Ik,h1,h9,h8,aW,k0,Qh ns hu hn,yS,hw,hq,u0,u1,hy,zL,hx,Xz];rfl
      ·exact⟨k+1,_,_,(by simp only[EV,seval,h2]),(by simp only[EV,seval,vP]),(by simp only[EV,seval,h4]),(by simp only[EV,seval,qD]),(by simp only[EV,seval,h7]),(by simp only[EV,seval];rfl),(by simp only[EV,seval,h1]),(by simp only[EV,seval]),by omega,by omega,(by simp only[EV,seval];rfl),(by rw[hs];(try simp only[nil_append]);exact .inr (.inr ⟨_,rfl,(by simp only[EV,seval]<;>omega),(by simp only[EV,seval]<;>rfl)⟩)),(by rw[hs];(try simp only[nil_append]);exact .inr ⟨_,rfl,(by simp only[EV,seval]<;>omega),(by simp only[EV,seval]<;>rfl)⟩)⟩
     ·rw[hx] at hs;apply oN ((ns.length-(k+1)))
      ·simp only[ZZ,seval,h2,vP,h4,qD,h7,Ik,h1,h9,h8,aW,k0,Qh ns hu hn,yS,hw,hq,u0,u1,hy,zL];rfl
      ·exact⟨k+1,_,_,(by simp only[EV,seval,h2]),(by simp only[EV,seval,vP]),(by simp only[EV,seval,h4]),(by simp only[EV,seval,qD]),(by simp only[EV,seval,h7]),(by simp only[EV,seval];rfl),(by simp only[EV,seval,h1]),(by simp only[EV,seval]),by omega,by omega,(by simp only[EV,seval];rfl),(by rw[hs];(try simp only[nil_append]);exact .inr (.inr ⟨_,rfl,(by simp only[EV,seval]<;>omega),(by simp only[EV,seval]<;>rfl)⟩)),(by rw[hs];(try simp only[nil_append]);exact .inr ⟨_,rfl,(by simp only[EV,seval]<;>omega),(by simp only[EV,seval]<;>rfl)⟩)⟩
     ·apply oN ((ns.length-(k+1)))
      ·simp only[ZZ,seval,h2,vP,h4,qD,h7,Ik,h1,h9,h8,aW,k0,Qh ns hu hn,yS,hw,hq,u0,u1,hy,zL,hx,Xz];rfl
      ·exact⟨k+1,_,_,(by simp only[EV,seval,h2]),(by simp only[EV,seval,vP]),(by simp only[EV,seval,h4]),(by simp only[EV,seval,qD]),(by simp only[EV,seval,h7]),(by simp only[EV,seval];rfl),(by simp only[EV,seval,h1]),(by simp only[EV,seval]),by omega,by omega,(by simp only[EV,seval];rfl),(by rw[hs];(try simp only[nil_append]);exact .inr (.inr ⟨_,rfl,(by simp only[EV,seval]<;>omega),(by simp only[EV,seval]<;>rfl)⟩)),(by rw[hs];(try simp only[nil_append]);exact .inr ⟨_,rfl,(by simp only[EV,seval]<;>omega),(by simp only[EV,seval]<;>rfl)⟩)⟩
   ·have AJ:lW ns i k=false:=by simpa using yS
    have hs:gN ns i (k+1)=((gN ns i k).1,(gN ns i k).2++[-1]):=by simp[gN,AJ]
    rcases hy with ⟨rfl,hy⟩|⟨g,rfl,hg,hy⟩|⟨g,rfl,hg,hy⟩<;>rcases hx with ⟨rfl,hx⟩|⟨g',rfl,PI,hx⟩
    ·rw[hy,hx] at hs;apply oN ((ns.length-(k+1)))
     ·simp only[ZZ,seval,h2,vP,h4,qD,h7,Ik,h1,h9,h8,aW,k0,Qh ns hu hn,AJ,hw];rfl
     ·exact⟨k+1,_,_,(by simp only[EV,seval,h2]),(by simp only[EV,seval,vP]),(by simp only[EV,seval,h4]),(by simp only[EV,seval,qD]),(by simp only[EV,seval,h7]),(by simp only[EV,seval,Ik];rfl),(by simp only[EV,seval,h1]),(by simp only[EV,seval]),by omega,by omega,(by simp only[EV,seval];rfl),(by rw[hs];(try simp only[nil_append]);exact .inr (.inl ⟨_,rfl,(by simp only[EV,seval]<;>omega),(by simp only[EV,seval]<;>rfl)⟩)),(by rw[hs];exact .inl ⟨rfl,rfl⟩)⟩
    ·rw[hy] at hs;apply oN ((ns.length-(k+1)))
     ·simp only[ZZ,seval,h2,vP,h4,qD,h7,Ik,h1,h9,h8,aW,k0,Qh ns hu hn,AJ,hw,hx,Xz];rfl
     ·exact⟨k+1,_,_,(by simp only[EV,seval,h2]),(by simp only[EV,seval,vP]),(by simp only[EV,seval,h4]),(by simp only[EV,seval,qD]),(by simp only[EV,seval,h7]),(by simp only[EV,seval,Ik];rfl),(by simp only[EV,seval,h1]),(by simp only[EV,seval]),by omega,by omega,(by simp only[EV,seval];rfl),(by rw[hs];(try simp only[nil_append]);exact .inr (.inl ⟨_,rfl,(by simp only[EV,seval]<;>omega),(by simp only[EV,seval]<;>rfl)⟩)),(by rw[hs];exact .inr ⟨_,rfl,(by simp only[EV,seval]<;>omega),(by simp only[EV,seval,hx])⟩)⟩
    ·rw[hx] at hs;apply oN ((ns.length-(k+1)))
     ·simp only[ZZ,seval,h2,vP,h4,qD,h7,Ik,h1,h9,h8,aW,k0,Qh ns hu hn,AJ,hw,hy,zL];rfl
     ·exact⟨k+1,_,_,(by simp only[EV,seval,h2]),(by simp only[EV,seval,vP]),(by simp only[EV,seval,h4]),(by simp only[EV,seval,qD]),(by simp only[EV,seval,h7]),(by simp only[EV,seval,Ik];rfl),(by simp only[EV,seval,h1]),(by simp only[EV,seval]),by omega,by omega,(by simp only[EV,seval];rfl),(by rw[hs];(try simp only[nil_append]);exact .inr (.inl ⟨_,rfl,(by simp only[EV,seval]<;>omega),(by simp only[EV,seval]<;>rfl)⟩)),(by rw[hs];exact .inl ⟨rfl,rfl⟩)⟩
    ·apply oN ((ns.length-(k+1)))
     ·simp only[ZZ,seval,h2,vP,h4,qD,h7,Ik,h1,h9,h8,aW,k0,Qh ns hu hn,AJ,hw,hy,zL,hx,Xz];rfl
     ·exact⟨k+1,_,_,(by simp only[EV,seval,h2]),(by simp only[EV,seval,vP]),(by simp only[EV,seval,h4]),(by simp only[EV,seval,qD]),(by simp only[EV,seval,h7]),(by simp only[EV,seval,Ik];rfl),(by simp only[EV,seval,h1]),(by simp only[EV,seval]),by omega,by omega,(by simp only[EV,seval];rfl),(by rw[hs];(try simp only[nil_append]);exact .inr (.inl ⟨_,rfl,(by simp only[EV,seval]<;>omega),(by simp only[EV,seval]<;>rfl)⟩)),(by rw[hs];exact .inr ⟨_,rfl,(by simp only[EV,seval]<;>omega),(by simp only[EV,seval,hx])⟩)⟩
    ·rw[hx] at hs;apply oN ((ns.length-(k+1)))
     ·simp only[ZZ,seval,h2,vP,h4,qD,h7,Ik,h1,h9,h8,aW,k0,Qh ns hu hn,AJ,hw,hy,zL];rfl
     ·exact⟨k+1,_,_,(by simp only[EV,seval,h2]),(by simp only[EV,seval,vP]),(by simp only[EV,seval,h4]),(by simp only[EV,seval,qD]),(by simp only[EV,seval,h7]),(by simp only[EV,seval,Ik];rfl),(by simp only[EV,seval,h1]),(by simp only[EV,seval]),by omega,by omega,(by simp only[EV,seval];rfl),(by rw[hs];(try simp only[nil_append]);exact .inr (.inl ⟨_,rfl,(by simp only[EV,seval]<;>omega),(by simp only[EV,seval]<;>rfl)⟩)),(by rw[hs];exact .inl ⟨rfl,rfl⟩)⟩
    ·apply oN ((ns.length-(k+1)))
     ·simp only[ZZ,seval,h2,vP,h4,qD,h7,Ik,h1,h9,h8,aW,k0,Qh ns hu hn,AJ,hw,hy,zL,hx,Xz];rfl
     ·exact⟨k+1,_,_,(by simp only[EV,seval,h2]),(by simp only[EV,seval,vP]),(by simp only[EV,seval,h4]),(by simp only[EV,seval,qD]),(by simp only[EV,seval,h7]),(by simp only[EV,seval,Ik];rfl),(by simp only[EV,seval,h1]),(by simp only[EV,seval]),by omega,by omega,(by simp only[EV,seval];rfl),(by rw[hs];(try simp only[nil_append]);exact .inr (.inl ⟨_,rfl,(by simp only[EV,seval]<;>omega),(by simp only[EV,seval]<;>rfl)⟩)),(by rw[hs];exact .inr ⟨_,rfl,(by simp only[EV,seval]<;>omega),(by simp only[EV,seval,hx])⟩)⟩
  ·have Cn:k=ns.length:=by omega
   subst Cn;apply oT (.exit 0)
   ·simp only[ZZ,seval,h2,vP,h4,qD,h7,Ik,h1,h9,h8,aW];rfl
   ·exact⟨rfl,x,y,(by simp only[EV,seval,h4]),(by simp only[EV,seval,qD]),(by simp only[EV,seval,h7]),(by simp only[EV,seval,Ik]),(by simp only[EV,seval,h8]),hy,hx⟩
 case start=>exact⟨0,_,_,(by simp only[EV,seval]),(by simp only[EV,seval]),(by simp only[EV,seval]),(by simp only[EV,seval]),(by simp only[EV,seval]),(by simp only[EV,seval]<;>rfl),(by simp only[EV,seval]),(by simp only[EV,seval]<;>rfl),by omega,by omega,(by simp only[EV,seval]<;>rfl),.inl ⟨rfl,rfl⟩,.inl ⟨rfl,rfl⟩⟩
 case rest =>
  rintro e st ⟨rfl,x,y,h4,qD,h7,Ik,h8,hy,hx⟩
  have hlen:=xH ns i ns.length
  have gJ:=aAg ns hu i0 i1
  rcases hy with ⟨rfl,hy⟩|⟨g,rfl,hg,hy⟩|⟨g,rfl,hg,hy⟩<;>rcases hx with ⟨rfl,hx⟩|⟨g',rfl,PI,hx⟩
  ·exact absurd hx gJ
  ·rw[hy] at hlen;simp at hlen;omega
  ·exact absurd hx gJ
  ·simp only[ZZ,seval,h4,qD,h7,Ik,h8];exact fQ rfl (by simp only[bY,ZZ,seval,h4,qD,h7,Ik,h8];rfl) (by simp only[bY,EV,seval]<;>rfl) (by simp only[bY,EV,seval]<;>rfl) (by simp only[EV,seval,hx,aAo]<;>rfl) (by simp only[EV,seval,hy]) (by simp only[EV,seval])
  ·exact absurd hx gJ
  ·simp only[ZZ,seval,h4,qD,h7,Ik,h8];exact fQ rfl (by simp only[bY,ZZ,seval,h4,qD,h7,Ik,h8];rfl) (by simp only[bY,EV,seval]<;>rfl) (by simp only[bY,EV,seval]<;>rfl) (by simp only[EV,seval,hx,aAo]<;>rfl) (by simp only[EV,seval,hy]) (by simp only[EV,seval])
def HZ {P:Program} {b:Code} {st:St} {k:Ex × St->Option (Ex × St)} {R:Ex->St->Prop} (Inv:Nat->St->Prop) (Q:Ex->St->Prop) (n:Nat)
 (step:∀n st,Inv n st->∃e st',Bx P b st=some (e,st')/\((e=.normal/\∃m,m<n/\Inv m st')\/(e≠.normal/\Q e st')))
 (start:Inv n st) (rest:∀e st',Q e st'->∃e' aAi,k (e,st')=some (e',aAi)/\R e' aAi):∃e' aAi,cT (Bx P (.loop b) st) k=some (e',aAi)/\R e' aAi:=by
 obtain⟨e,s1,h1,h2,h3⟩:=Uf Inv Q step n st start
 rw[h1];exact rest e s1 h3
def YE {x:Option (Ex × St)} {st':St} {n:Nat} {Inv:Nat->St->Prop} {Q:Ex->St->Prop} (h:x=some (.normal,st')) (m:Nat) (hm:m<n) (hi:Inv m st') :
 ∃e st',x=some (e,st')/\((e=.normal/\∃m,m<n/\Inv m st')\/(e≠.normal/\Q e st')):=⟨_,_,h,.inl ⟨rfl,m,hm,hi⟩⟩
def M5 {call:Nat->List AV->Option AV} {ops:Array Oper} {st:St} {T:Nat} {pos:String} {fB:Array Edge} (d:Nat) (x y:Operand) {a b:Int} (h1:st.ev x=.v (.int .i64 a)) (h2:st.ev y=.v (.int .i64 b)):cI prog call ops ⟨some d,.buildSlice 22 2 #[(0,x),(1,y)],T,pos,fB,none⟩ st =
 some ((st.new d (.row 3 1 2 (aM [a,b]))).put (some d) (.own d (st.aQ d))):=by
 rw[lC];simp[Oh,ze3,cT,h1,h2,AV.jH,Value.oneCell',gS,AV.cells,List.range,List.range.loop,aM,rK]
def Gv {call:Nat->List AV->Option AV} {ops:Array Oper} {st:St} {T:Nat} {pos:String} {fB:Array Edge} (d:Nat) (x y:Operand):cI prog call ops ⟨some d,.buildSlice 22 2 #[(0,x),(1,y)],T,pos,fB,none⟩ st =
 Oi (st.ev x) (fun a=>Oi (st.ev y) (fun b=>some ((st.new d (.row 3 1 2 (aM [a,b]))).put (some d) (.own d (st.aQ d)))) (cI prog call ops ⟨some d,.buildSlice 22 2 #[(0,x),(1,y)],T,pos,fB,none⟩ st))
  (cI prog call ops ⟨some d,.buildSlice 22 2 #[(0,x),(1,y)],T,pos,fB,none⟩ st):=by
 unfold Oi;split
 ·rename_i a h1;try dsimp only
  split
  ·rename_i b h2;exact M5 d x y h1 h2
  ·rfl
 ·rfl
def aAj {ns:List Node} (hu:fK ns) {x y:Int} (h:lW ns x y=true) (h':lW ns y x=true):x=y:=by
 have:=Ue hu h
 have:=Ue hu h'
 omega
def IA {ns:List Node} (hu:fK ns):∀(k:Nat) (x y z:Int),z.toNat=k->lW ns x y=true->lW ns y z=true->lW ns x z=true:=by
 intro k;induction k using Nat.strongRecOn with
 | _ k ih =>
   intro x y z hk hxy hyz;obtain⟨⟨y0,y1⟩,z0,z1⟩:=Aq hu hyz
   have x0:=(Aq hu hxy).1.1
   by_cases h:y=z
   ·rw[<- h];exact hxy
   ·have h1:=Ue hu hxy
    have h2:=Ue hu hyz
    obtain⟨u0,u1⟩:=hu z (by omega) z1
    rw[AI hu z1 (by omega) x0]
    exact ih (nd ns z).up.toNat (by omega) x y _ rfl hxy (by rw[<- AI hu z1 (by omega) y0];exact hyz)
def As (ns:List Node) (i:Int):Nat->List Int
 | 0=>[]
 | k+1=>if lW ns i k=true then As ns i k++[(k:Int)] else As ns i k
def Zc (ns:List Node) (i:Int):∀k,(As ns i k).length<=k
 | 0=>Nat.le_refl _
 | k+1=>by
   have:=Zc ns i k
   simp only[As];split
   ·simp;omega
   ·omega
def YF {ns:List Node} (hu:fK ns) {i:Int} (i0:0<=i) (i1:i<ns.length):∀k:Nat,i<k->As ns i k≠[]
 | 0,h=>by omega
 | k+1,h=>by
   simp only[As];by_cases hk:i=k
   ·rw[if_pos (by unfold lW;rw[<- hk];exact decide_eq_true (nH hu i0 i1))];simp
   ·have:=YF hu i0 i1 k (by omega)
    split
    ·simp
    ·exact this
def Qw (ns:List Node) (i x:Int):∀k:Nat,x∈As ns i k↔(0<=x/\x<k)/\lW ns i x=true
 | 0=>by simp[As];intro h h';omega
 | k+1=>by
   have ih:=Qw ns i x k
   simp only[As];split
   ·rename_i h;rw[mem_append,ih,mem_singleton];constructor
    ·rintro (⟨h1,h2⟩|rfl)
     ·exact⟨by omega,h2⟩
     ·exact⟨by omega,h⟩
    ·rintro⟨h1,h2⟩
     by_cases hk:x=k
     ·exact .inr hk
     ·exact .inl ⟨by omega,h2⟩
   ·rename_i h;rw[ih];constructor
    ·rintro⟨h1,h2⟩;exact⟨by omega,h2⟩
    ·rintro⟨h1,h2⟩
     by_cases hk:x=k
     ·subst hk;exact absurd h2 h
     ·exact⟨by omega,h2⟩
def IB {ns:List Node} (hu:fK ns):∀(k:Nat) (z:Int),z.toNat=k->0<=z->z<ns.length->lW ns 0 z=true:=by
 intro k;induction k using Nat.strongRecOn with
 | _ k ih =>
   intro z hk z0 z1;by_cases h:z=0
   ·subst h;unfold lW;exact decide_eq_true (nH hu z0 z1)
   ·obtain⟨u0,u1⟩:=hu z (by omega) z1
    rw[AI hu z1 (by omega) (by omega)]
    exact ih (nd ns z).up.toNat (by omega) _ rfl u0 (by omega)
def aPj (ns:List Node) (hu:fK ns) (hr:(nd ns 0).up<0) (hn:(ns.length:Int)<1000000) (i:Int) (i0:0<=i) (i1:i<ns.length):aG prog 125 [.agg (cH ⟨ns⟩),.v (.int .i64 i)] =
 some (.eH [.agg (cH ⟨(gN ns i ns.length).1⟩),.sl (gN ns i ns.length).2.length (aM (gN ns i ns.length).2),.v (.int .i64 0)]):=by
 have hi0:decide (i<0)=false:=by simp;omega
 have hi1:decide ((ns.length:Int)<=i)=false:=by simp;omega
 rw[cL func125 rfl rfl];simp only[ZZ,seval,hi0,hi1];refine jK (fun n st=>∃(k:Nat) (x y:AV),st.env 4=.ptr 4 0 0/\st.heap 4 0=some (.cells [x])/\st.env 1=.v (.int .i64 i)/\st.env 21=.sl ns.length (bV ns)/\st.env 22=.v (.int .i64 ns.length)/\st.env 23=.v (.int .i64 k) /\
  k<=ns.length/\n=ns.length-k/\st.env 5=y/\aDS st 50 58 y (gN ns i k).2/\aDT st 63 x (gN ns i k).1)
  (fun e st=>e=.exit 0/\∃(x y:AV),st.env 4=.ptr 4 0 0/\st.heap 4 0=some (.cells [x])/\st.env 5=y/\aDS st 50 58 y (gN ns i ns.length).2/\aDT st 63 x (gN ns i ns.length).1) ns.length ?step ?start ?rest
 case step =>
  rintro n st ⟨k,x,y,h4,qD,h1,By,Dm,AK,hk,Hu,h5,hy,hx⟩
  have hlen:=xH ns i k
  have aAh:=Lh ns i k
  have zL:((gN ns i k).2.length:Int)<1000000:=by omega
  have Xz:((gN ns i k).1.length:Int)<1000000:=by omega
  by_cases aW:(k:Int)<ns.length
  ·have hw:i64.wrap ((k:Int)+1)=((k+1:Nat):Int):=by rw[Ej _ (by omega) (by omega)];simp
   have k0:(0:Int)<=k:=by omega
   have Wv:=Ar hu i0 i1
   by_cases PH:(k:Int)=i
   ·have hq:((k:Int) != i)=false:=by simp[PH]
    have hs:gN ns i (k+1)=((gN ns i k).1++[{ nd ns k with up:=-1 }],(gN ns i k).2++[((gN ns i k).1.length:Int)]):=by simp only[gN,PH,Wv,if_true]
    rcases hy with ⟨rfl,hy⟩|⟨g,rfl,hg,hy⟩|⟨g,rfl,hg,hy⟩<;>rcases hx with ⟨rfl,hx⟩|⟨g',rfl,PI,hx⟩
    ·rw[hy,hx] at hs;apply oN ((ns.length-(k+1)))
     ·simp only[ZZ,seval,h4,qD,h1,By,Dm,AK,h5,aW,k0,hw,hq];rfl
     ·exact⟨k+1,_,_,(by simp only[EV,seval,h4]),(by simp only[EV,seval]<;>rfl),(by simp only[EV,seval,h1]),(by simp only[EV,seval,By]),(by simp only[EV,seval,Dm]),(by simp only[EV,seval]),by omega,by omega,(by simp only[EV,seval]<;>rfl),(by rw[hs];(try simp only[nil_append]);exact .inr (.inr ⟨_,rfl,(by simp only[EV,seval]<;>omega),(by simp only[EV,seval]<;>rfl)⟩)),(by rw[hs];(try simp only[nil_append]);exact .inr ⟨_,rfl,(by simp only[EV,seval]<;>omega),(by simp only[EV,seval]<;>rfl)⟩)⟩
    ·rw[hy] at hs;apply oN ((ns.length-(k+1)))
     ·simp only[ZZ,seval,h4,qD,h1,By,Dm,AK,h5,aW,k0,hw,hq,hx,Xz];rfl
     ·exact⟨k+1,_,_,(by simp only[EV,seval,h4]),(by simp only[EV,seval]<;>rfl),(by simp only[EV,seval,h1]),(by simp only[EV,seval,By]),(by simp only[EV,seval,Dm]),(by simp only[EV,seval]),by omega,by omega,(by simp only[EV,seval]<;>rfl),(by rw[hs];(try simp only[nil_append]);exact .inr (.inr ⟨_,rfl,(by simp only[EV,seval]<;>omega),(by simp only[EV,seval]<;>rfl)⟩)),(by rw[hs];(try simp only[nil_append]);exact .inr ⟨_,rfl,(by simp only[EV,seval]<;>omega),(by simp only[EV,seval]<;>rfl)⟩)⟩
    ·rw[hx] at hs;apply oN ((ns.length-(k+1)))
     ·simp only[ZZ,seval,h4,qD,h1,By,Dm,AK,h5,aW,k0,hw,hq,hy,zL];rfl
     ·exact⟨k+1,_,_,(by simp only[EV,seval,h4]),(by simp only[EV,seval]<;>rfl),(by simp only[EV,seval,h1]),(by simp only[EV,seval,By]),(by simp only[EV,seval,Dm]),(by simp only[EV,seval]),by omega,by omega,(by simp only[EV,seval]<;>rfl),(by rw[hs];(try simp only[nil_append]);exact .inr (.inr ⟨_,rfl,(by simp only[EV,seval]<;>omega),(by simp only[EV,seval]<;>rfl)⟩)),(by rw[hs];(try simp only[nil_append]);exact .inr ⟨_,rfl,(by simp only[EV,seval]<;>omega),(by simp only[EV,seval]<;>rfl)⟩)⟩
    ·apply oN ((ns.length-(k+1)))
     ·simp only[ZZ,seval,h4,qD,h1,By,Dm,AK,h5,aW,k0,hw,hq,hy,zL,hx,Xz];rfl
     ·exact⟨k+1,_,_,(by simp only[EV,seval,h4]),(by simp only[EV,seval]<;>rfl),(by simp only[EV,seval,h1]),(by simp only[EV,seval,By]),(by simp only[EV,seval,Dm]),(by simp only[EV,seval]),by omega,by omega,(by simp only[EV,seval]<;>rfl),(by rw[hs];(try simp only[nil_append]);exact .inr (.inr ⟨_,rfl,(by simp only[EV,seval]<;>omega),(by simp only[EV,seval]<;>rfl)⟩)),(by rw[hs];(try simp only[nil_append]);exact .inr ⟨_,rfl,(by simp only[EV,seval]<;>omega),(by simp only[EV,seval]<;>rfl)⟩)⟩
    ·rw[hx] at hs;apply oN ((ns.length-(k+1)))
     ·simp only[ZZ,seval,h4,qD,h1,By,Dm,AK,h5,aW,k0,hw,hq,hy,zL];rfl
     ·exact⟨k+1,_,_,(by simp only[EV,seval,h4]),(by simp only[EV,seval]<;>rfl),(by simp only[EV,seval,h1]),(by simp only[EV,seval,By]),(by simp only[EV,seval,Dm]),(by simp only[EV,seval]),by omega,by omega,(by simp only[EV,seval]<;>rfl),(by rw[hs];(try simp only[nil_append]);exact .inr (.inr ⟨_,rfl,(by simp only[EV,seval]<;>omega),(by simp only[EV,seval]<;>rfl)⟩)),(by rw[hs];(try simp only[nil_append]);exact .inr ⟨_,rfl,(by simp only[EV,seval]<;>omega),(by simp only[EV,seval]<;>rfl)⟩)⟩
    ·apply oN ((ns.length-(k+1)))
     ·simp only[ZZ,seval,h4,qD,h1,By,Dm,AK,h5,aW,k0,hw,hq,hy,zL,hx,Xz];rfl
     ·exact⟨k+1,_,_,(by simp only[EV,seval,h4]),(by simp only[EV,seval]<;>rfl),(by simp only[EV,seval,h1]),(by simp only[EV,seval,By]),(by simp only[EV,seval,Dm]),(by simp only[EV,seval]),by omega,by omega,(by simp only[EV,seval]<;>rfl),(by rw[hs];(try simp only[nil_append]);exact .inr (.inr ⟨_,rfl,(by simp only[EV,seval]<;>omega),(by simp only[EV,seval]<;>rfl)⟩)),(by rw[hs];(try simp only[nil_append]);exact .inr ⟨_,rfl,(by simp only[EV,seval]<;>omega),(by simp only[EV,seval]<;>rfl)⟩)⟩
   ·have hq:((k:Int) != i)=true:=by simp[PH]
    rcases Nat.eq_zero_or_pos k with rC|rC
    ·have zM:decide (0<=(nd ns k).up)=false:=by rw[rC];simp;omega
     have yS:lW ns i k=false:=by rw[rC,show ((0:Nat):Int)=0 from rfl,Qv (by omega)];simp;omega
     have hs:gN ns i (k+1)=((gN ns i k).1,(gN ns i k).2++[-1]):=by simp[gN,yS]
     rcases hy with ⟨rfl,hy⟩|⟨g,rfl,hg,hy⟩|⟨g,rfl,hg,hy⟩<;>rcases hx with ⟨rfl,hx⟩|⟨g',rfl,PI,hx⟩
     ·rw[hy,hx] at hs;apply oN ((ns.length-(k+1)))
      ·simp only[ZZ,seval,h4,qD,h1,By,Dm,AK,h5,aW,k0,hw,hq,zM];rfl
      ·exact⟨k+1,_,_,(by simp only[EV,seval,h4]),(by simp only[EV,seval,qD]<;>rfl),(by simp only[EV,seval,h1]),(by simp only[EV,seval,By]),(by simp only[EV,seval,Dm]),(by simp only[EV,seval]),by omega,by omega,(by simp only[EV,seval]<;>rfl),(by rw[hs];(try simp only[nil_append]);exact .inr (.inl ⟨_,rfl,(by simp only[EV,seval]<;>omega),(by simp only[EV,seval]<;>rfl)⟩)),(by rw[hs];exact .inl ⟨rfl,rfl⟩)⟩
     ·rw[hy] at hs;apply oN ((ns.length-(k+1)))
      ·simp only[ZZ,seval,h4,qD,h1,By,Dm,AK,h5,aW,k0,hw,hq,zM,hx,Xz];rfl
      ·exact⟨k+1,_,_,(by simp only[EV,seval,h4]),(by simp only[EV,seval,qD]<;>rfl),(by simp only[EV,seval,h1]),(by simp only[EV,seval,By]),(by simp only[EV,seval,Dm]),(by simp only[EV,seval]),by omega,by omega,(by simp only[EV,seval]<;>rfl),(by rw[hs];(try simp only[nil_append]);exact .inr (.inl ⟨_,rfl,(by simp only[EV,seval]<;>omega),(by simp only[EV,seval]<;>rfl)⟩)),(by rw[hs];exact .inr ⟨_,rfl,(by simp only[EV,seval]<;>omega),(by simp only[EV,seval,hx])⟩)⟩
     ·rw[hx] at hs;apply oN ((ns.length-(k+1)))
      ·simp only[ZZ,seval,h4,qD,h1,By,Dm,AK,h5,aW,k0,hw,hq,zM,hy,zL];rfl
      ·exact⟨k+1,_,_,(by simp only[EV,seval,h4]),(by simp only[EV,seval,qD]<;>rfl),(by simp only[EV,seval,h1]),(by simp only[EV,seval,By]),(by simp only[EV,seval,Dm]),(by simp only[EV,seval]),by omega,by omega,(by simp only[EV,seval]<;>rfl),(by rw[hs];(try simp only[nil_append]);exact .inr (.inl ⟨_,rfl,(by simp only[EV,seval]<;>omega),(by simp only[EV,seval]<;>rfl)⟩)),(by rw[hs];exact .inl ⟨rfl,rfl⟩)⟩
     ·apply oN ((ns.length-(k+1)))
      ·simp only[ZZ,seval,h4,qD,h1,By,Dm,AK,h5,aW,k0,hw,hq,zM,hy,zL,hx,Xz];rfl
      ·exact⟨k+1,_,_,(by simp only[EV,seval,h4]),(by simp only[EV,seval,qD]<;>rfl),(by simp only[EV,seval,h1]),(by simp only[EV,seval,By]),(by simp only[EV,seval,Dm]),(by simp only[EV,seval]),by omega,by omega,(by simp only[EV,seval]<;>rfl),(by rw[hs];(try simp only[nil_append]);exact .inr (.inl ⟨_,rfl,(by simp only[EV,seval]<;>omega),(by simp only[EV,seval]<;>rfl)⟩)),(by rw[hs];exact .inr ⟨_,rfl,(by simp only[EV,seval]<;>omega),(by simp only[EV,seval,hx])⟩)⟩
     ·rw[hx] at hs;apply oN ((ns.length-(k+1)))
      ·simp only[ZZ,seval,h4,qD,h1,By,Dm,AK,h5,aW,k0,hw,hq,zM,hy,zL];rfl
      ·exact⟨k+1,_,_,(by simp only[EV,seval,h4]),(by simp only[EV,seval,qD]<;>rfl),(by simp only[EV,seval,h1]),(by simp only[EV,seval,By]),(by simp only[EV,seval,Dm]),(by simp only[EV,seval]),by omega,by omega,(by simp only[EV,seval]<;>rfl),(by rw[hs];(try simp only[nil_append]);exact .inr (.inl ⟨_,rfl,(by simp only[EV,seval]<;>omega),(by simp only[EV,seval]<;>rfl)⟩)),(by rw[hs];exact .inl ⟨rfl,rfl⟩)⟩
     ·apply oN ((ns.length-(k+1)))
      ·simp only[ZZ,seval,h4,qD,h1,By,Dm,AK,h5,aW,k0,hw,hq,zM,hy,zL,hx,Xz];rfl
      ·exact⟨k+1,_,_,(by simp only[EV,seval,h4]),(by simp only[EV,seval,qD]<;>rfl),(by simp only[EV,seval,h1]),(by simp only[EV,seval,By]),(by simp only[EV,seval,Dm]),(by simp only[EV,seval]),by omega,by omega,(by simp only[EV,seval]<;>rfl),(by rw[hs];(try simp only[nil_append]);exact .inr (.inl ⟨_,rfl,(by simp only[EV,seval]<;>omega),(by simp only[EV,seval]<;>rfl)⟩)),(by rw[hs];exact .inr ⟨_,rfl,(by simp only[EV,seval]<;>omega),(by simp only[EV,seval,hx])⟩)⟩
    ·obtain⟨u0,u1'⟩:=hu k (by omega) aW
     have u1:(nd ns k).up<(gN ns i k).2.length:=by rw[hlen];exact u1'
     have XX:=PY ns i k (nd ns k).up u0 (by omega)
     have hstep:=PZ hu (show (0:Int)<k by omega) aW (Ne.symm PH)
     cases yS:lW ns i k
     ·have KT:decide (it (gN ns i k).2 (nd ns k).up<0)=true:=by
       rw[<- hstep,yS] at XX;simp at XX ⊢;exact XX
      have hs:gN ns i (k+1)=((gN ns i k).1,(gN ns i k).2++[-1]):=by simp[gN,yS]
      rcases hy with ⟨rfl,hy⟩|⟨g,rfl,hg,hy⟩|⟨g,rfl,hg,hy⟩<;>rcases hx with ⟨rfl,hx⟩|⟨g',rfl,PI,hx⟩
      ·exfalso;rw[hy] at u1;simp at u1;omega
      ·exfalso;rw[hy] at u1;simp at u1;omega
      ·rw[hx] at hs;apply oN ((ns.length-(k+1)))
       ·simp only[ZZ,seval,h4,qD,h1,By,Dm,AK,h5,aW,k0,hw,hq,u0,u1,KT,hy,zL];rfl
       ·exact⟨k+1,_,_,(by simp only[EV,seval,h4]),(by simp only[EV,seval,qD]<;>rfl),(by simp only[EV,seval,h1]),(by simp only[EV,seval,By]),(by simp only[EV,seval,Dm]),(by simp only[EV,seval]),by omega,by omega,(by simp only[EV,seval]<;>rfl),(by rw[hs];(try simp only[nil_append]);exact .inr (.inl ⟨_,rfl,(by simp only[EV,seval]<;>omega),(by simp only[EV,seval]<;>rfl)⟩)),(by rw[hs];exact .inl ⟨rfl,rfl⟩)⟩
      ·apply oN ((ns.length-(k+1)))
       ·simp only[ZZ,seval,h4,qD,h1,By,Dm,AK,h5,aW,k0,hw,hq,u0,u1,KT,hy,zL,hx,Xz];rfl
       ·exact⟨k+1,_,_,(by simp only[EV,seval,h4]),(by simp only[EV,seval,qD]<;>rfl),(by simp only[EV,seval,h1]),(by simp only[EV,seval,By]),(by simp only[EV,seval,Dm]),(by simp only[EV,seval]),by omega,by omega,(by simp only[EV,seval]<;>rfl),(by rw[hs];(try simp only[nil_append]);exact .inr (.inl ⟨_,rfl,(by simp only[EV,seval]<;>omega),(by simp only[EV,seval]<;>rfl)⟩)),(by rw[hs];exact .inr ⟨_,rfl,(by simp only[EV,seval]<;>omega),(by simp only[EV,seval,hx])⟩)⟩
      ·rw[hx] at hs;apply oN ((ns.length-(k+1)))
       ·simp only[ZZ,seval,h4,qD,h1,By,Dm,AK,h5,aW,k0,hw,hq,u0,u1,KT,hy,zL];rfl
       ·exact⟨k+1,_,_,(by simp only[EV,seval,h4]),(by simp only[EV,seval,qD]<;>rfl),(by simp only[EV,seval,h1]),(by simp only[EV,seval,By]),(by simp only[EV,seval,Dm]),(by simp only[EV,seval]),by omega,by omega,(by simp only[EV,seval]<;>rfl),(by rw[hs];(try simp only[nil_append]);exact .inr (.inl ⟨_,rfl,(by simp only[EV,seval]<;>omega),(by simp only[EV,seval]<;>rfl)⟩)),(by rw[hs];exact .inl ⟨rfl,rfl⟩)⟩
      ·apply oN ((ns.length-(k+1)))
       ·simp only[ZZ,seval,h4,qD,h1,By,Dm,AK,h5,aW,k0,hw,hq,u0,u1,KT,hy,zL,hx,Xz];rfl
       ·exact⟨k+1,_,_,(by simp only[EV,seval,h4]),(by simp only[EV,seval,qD]<;>rfl),(by simp only[EV,seval,h1]),(by simp only[EV,seval,By]),(by simp only[EV,seval,Dm]),(by simp only[EV,seval]),by omega,by omega,(by simp only[EV,seval]<;>rfl),(by rw[hs];(try simp only[nil_append]);exact .inr (.inl ⟨_,rfl,(by simp only[EV,seval]<;>omega),(by simp only[EV,seval]<;>rfl)⟩)),(by rw[hs];exact .inr ⟨_,rfl,(by simp only[EV,seval]<;>omega),(by simp only[EV,seval,hx])⟩)⟩
     ·have KT:decide (it (gN ns i k).2 (nd ns k).up<0)=false:=by
       rw[<- hstep,yS] at XX;simp at XX ⊢;exact XX
      have hs:gN ns i (k+1)=((gN ns i k).1++[{ nd ns k with up:=it (gN ns i k).2 (nd ns k).up }],(gN ns i k).2++[((gN ns i k).1.length:Int)]):=by simp only[gN,yS,if_true,if_neg PH]
      rcases hy with ⟨rfl,hy⟩|⟨g,rfl,hg,hy⟩|⟨g,rfl,hg,hy⟩<;>rcases hx with ⟨rfl,hx⟩|⟨g',rfl,PI,hx⟩
      ·exfalso;rw[hy] at u1;simp at u1;omega
      ·exfalso;rw[hy] at u1;simp at u1;omega
      ·rw[hx] at hs;apply oN ((ns.length-(k+1)))
       ·simp only[ZZ,seval,h4,qD,h1,By,Dm,AK,h5,aW,k0,hw,hq,u0,u1,KT,hy,zL];rfl
       ·exact⟨k+1,_,_,(by simp only[EV,seval,h4]),(by simp only[EV,seval]<;>rfl),(by simp only[EV,seval,h1]),(by simp only[EV,seval,By]),(by simp only[EV,seval,Dm]),(by simp only[EV,seval]),by omega,by omega,(by simp only[EV,seval]<;>rfl),(by rw[hs];(try simp only[nil_append]);exact .inr (.inr ⟨_,rfl,(by simp only[EV,seval]<;>omega),(by simp only[EV,seval]<;>rfl)⟩)),(by rw[hs];(try simp only[nil_append]);exact .inr ⟨_,rfl,(by simp only[EV,seval]<;>omega),(by simp only[EV,seval]<;>rfl)⟩)⟩
      ·apply oN ((ns.length-(k+1)))
       ·simp only[ZZ,seval,h4,qD,h1,By,Dm,AK,h5,aW,k0,hw,hq,u0,u1,KT,hy,zL,hx,Xz];rfl
       ·exact⟨k+1,_,_,(by simp only[EV,seval,h4]),(by simp only[EV,seval]<;>rfl),(by simp only[EV,seval,h1]),(by simp only[EV,seval,By]),(by simp only[EV,seval,Dm]),(by simp only[EV,seval]),by omega,by omega,(by simp only[EV,seval]<;>rfl),(by rw[hs];(try simp only[nil_append]);exact .inr (.inr ⟨_,rfl,(by simp only[EV,seval]<;>omega),(by simp only[EV,seval]<;>rfl)⟩)),(by rw[hs];(try simp only[nil_append]);exact .inr ⟨_,rfl,(by simp only[EV,seval]<;>omega),(by simp only[EV,seval]<;>rfl)⟩)⟩
      ·rw[hx] at hs;apply oN ((ns.length-(k+1)))
       ·simp only[ZZ,seval,h4,qD,h1,By,Dm,AK,h5,aW,k0,hw,hq,u0,u1,KT,hy,zL];rfl
       ·exact⟨k+1,_,_,(by simp only[EV,seval,h4]),(by simp only[EV,seval]<;>rfl),(by simp only[EV,seval,h1]),(by simp only[EV,seval,By]),(by simp only[EV,seval,Dm]),(by simp only[EV,seval]),by omega,by omega,(by simp only[EV,seval]<;>rfl),(by rw[hs];(try simp only[nil_append]);exact .inr (.inr ⟨_,rfl,(by simp only[EV,seval]<;>omega),(by simp only[EV,seval]<;>rfl)⟩)),(by rw[hs];(try simp only[nil_append]);exact .inr ⟨_,rfl,(by simp only[EV,seval]<;>omega),(by simp only[EV,seval]<;>rfl)⟩)⟩
      ·apply oN ((ns.length-(k+1)))
       ·simp only[ZZ,seval,h4,qD,h1,By,Dm,AK,h5,aW,k0,hw,hq,u0,u1,KT,hy,zL,hx,Xz];rfl
       ·exact⟨k+1,_,_,(by simp only[EV,seval,h4]),(by simp only[EV,seval]<;>rfl),(by simp only[EV,seval,h1]),(by simp only[EV,seval,By]),(by simp only[EV,seval,Dm]),(by simp only[EV,seval]),by omega,by omega,(by simp only[EV,seval]<;>rfl),(by rw[hs];(try simp only[nil_append]);exact .inr (.inr ⟨_,rfl,(by simp only[EV,seval]<;>omega),(by simp only[EV,seval]<;>rfl)⟩)),(by rw[hs];(try simp only[nil_append]);exact .inr ⟨_,rfl,(by simp only[EV,seval]<;>omega),(by simp only[EV,seval]<;>rfl)⟩)⟩
  ·have Cn:k=ns.length:=by omega
   subst Cn;apply oT (.exit 0)
   ·simp only[ZZ,seval,h4,qD,h1,By,Dm,AK,aW,h5];rfl
   ·exact⟨rfl,x,y,(by simp only[EV,seval,h4]),(by simp only[EV,seval,qD]),(by simp only[EV,seval,h5]),hy,hx⟩
 case start=>exact⟨0,_,_,(by simp only[EV,seval]),(by simp only[EV,seval]<;>rfl),(by simp only[EV,seval]),(by simp only[EV,seval]),(by simp only[EV,seval]),(by simp only[EV,seval]),by omega,by omega,(by simp only[EV,seval]<;>rfl),.inl ⟨rfl,rfl⟩,.inl ⟨rfl,rfl⟩⟩
 case rest =>
  rintro e st ⟨rfl,x,y,h4,qD,h5,hy,hx⟩
  have hlen:=xH ns i ns.length
  have gJ:=aAg ns hu i0 i1
  rcases hy with ⟨rfl,hy⟩|⟨g,rfl,hg,hy⟩|⟨g,rfl,hg,hy⟩<;>rcases hx with ⟨rfl,hx⟩|⟨g',rfl,PI,hx⟩
  ·exact absurd hx gJ
  ·rw[hy] at hlen;simp at hlen;omega
  ·exact absurd hx gJ
  ·simp only[ZZ,seval,h4,qD,h5];exact fQ rfl (by simp only[bY,ZZ,seval,h4,qD,h5];rfl) (by simp only[bY,EV,seval]<;>rfl) (by simp only[bY,EV,seval]<;>rfl) (by simp only[EV,seval,hx,aAo]<;>rfl) (by simp only[EV,seval,hy]) (by simp only[EV,seval])
  ·exact absurd hx gJ
  ·simp only[ZZ,seval,h4,qD,h5];exact fQ rfl (by simp only[bY,ZZ,seval,h4,qD,h5];rfl) (by simp only[bY,EV,seval]<;>rfl) (by simp only[bY,EV,seval]<;>rfl) (by simp only[EV,seval,hx,aAo]<;>rfl) (by simp only[EV,seval,hy]) (by simp only[EV,seval])
def M6 (ns:List Node) (i:Int):AV:=.eH [.agg (cH ⟨(gN ns i ns.length).1⟩),.sl (gN ns i ns.length).2.length (aM (gN ns i ns.length).2),.v (.int .i64 0)]
def IC (ns:List Node) (i:Int):Flat (M6 ns i):=.eH _ (mM (lL _) (Ud _) (.v _))
def aPl (ns:List Node) (hu:fK ns) (hr:(nd ns 0).up<0) (hn:(ns.length:Int)<1000000) (i:Int) (h:0<=i/\i<ns.length):KC 125 [.agg (cH ⟨ns⟩),.v (.int .i64 i)] (M6 ns i):=fun _ _=>bE (bB (lL _) (.v _)) (aPj ns hu hr hn i h.1 h.2) (IC ns i)
def k34 (ns:List Node) (hu:fK ns) (hn:(ns.length:Int)<1000000) (i:Int) (h:0<=i/\i<ns.length):KC 34 [.agg (cH ⟨ns⟩),.v (.int .i64 i)] (M6 ns i):=fun _ _=>bE (bB (lL _) (.v _)) (c34 ns hu hn i h.1 h.2) (IC ns i)
def YG {ns:List Node} (hu:fK ns) {i:Int}:∀k:Nat,k<=ns.length->∀a:Int,0<=a->a<k->lW ns i a=true ->
 0<=it (gN ns i k).2 a/\it (gN ns i k).2 a<(gN ns i k).1.length/\nd (gN ns i k).1 (it (gN ns i k).2 a)={ nd ns a with up:=if a=i then -1 else it (gN ns i k).2 (nd ns a).up }
 | 0,_,a,a0,a1,_=>by omega
 | k+1,hk,a,a0,a1,ha=>by
   have hl:=xH ns i k
   have zM:a≠i->0<=(nd ns a).up/\(nd ns a).up<a:=fun h=>by
    by_cases ha0:a=0
    ·subst ha0;rw[Qv (by omega)] at ha;simp at ha;omega
    ·exact hu a (by omega) (by omega)
   by_cases hak:a<k
   ·obtain⟨h1,h2,h3⟩:=YG hu k (by omega) a a0 hak ha
    simp only[gN];split
    ·simp only
     rw[kY a0 (by omega),mH h1 h2,h3]
     refine⟨h1,by simp;omega, ?_⟩
     by_cases Ug:a=i
     ·rw[if_pos Ug,if_pos Ug]
     ·obtain⟨u0,u1⟩:=zM Ug
      rw[if_neg Ug,if_neg Ug,kY u0 (by omega)]
    ·simp only
     rw[kY a0 (by omega),h3]
     refine⟨h1,h2, ?_⟩
     by_cases Ug:a=i
     ·rw[if_pos Ug,if_pos Ug]
     ·obtain⟨u0,u1⟩:=zM Ug
      rw[if_neg Ug,if_neg Ug,kY u0 (by omega)]
   ·have hak:a=k:=by omega
    subst hak;simp only[gN,ha,if_true];rw[wF (by omega),El rfl]
    refine⟨by omega,by simp<;>omega, ?_⟩
    by_cases Ug:(k:Int)=i
    ·rw[if_pos Ug,if_pos Ug]
    ·obtain⟨u0,u1⟩:=zM Ug
     rw[if_neg Ug,if_neg Ug,kY u0 (by omega)]
def Oj (ns:List Node) (i:Int):∀(d k:Nat) (a:Int),0<=a->a<k->it (gN ns i (k+d)).2 a=it (gN ns i k).2 a
 | 0,k,a,_,_=>rfl
 | d+1,k,a,a0,a1=>by
   have ih:=Oj ns i d k a a0 a1
   have hl:=xH ns i (k+d)
   rw[<- ih,<- Nat.add_assoc];simp only[gN];split
   ·simp only;rw[kY a0 (by omega)]
   ·simp only;rw[kY a0 (by omega)]
def aDU {ns:List Node} {i:Int} {n:Nat} {k:Nat} (hk:k<n) (ha:lW ns i k=true):it (gN ns i n).2 k=(gN ns i k).1.length:=by
 obtain⟨d,rfl⟩:∃d,n=k+1+d:=⟨n-(k+1),by omega⟩
 rw[Oj ns i d (k+1) k (by omega) (by omega)]
 have hl:=xH ns i k
 simp only[gN,ha,if_true];rw[wF (by omega)]
def aAl {ns:List Node} (hu:fK ns) {i:Int} {n:Nat} (hn:n<=ns.length) {a b:Int} (a0:0<=a) (M7:a<b) (hb:b<n) (ha:lW ns i a=true) (oM:lW ns i b=true):it (gN ns i n).2 a<it (gN ns i n).2 b:=by
 obtain⟨k,rfl⟩:∃k:Nat,b=k:=⟨b.toNat,by omega⟩
 rw[aDU (by omega) oM]
 obtain⟨d,rfl⟩:∃d,n=k+d:=⟨n-k,by omega⟩
 rw[Oj ns i d k a a0 M7];exact (YG hu k (by omega) a a0 M7 ha).2.1
def xU (ns:List Node) (i:Int):∀(k:Nat) (m:Int),0<=m->m<(gN ns i k).1.length->∃a:Int,0<=a/\a<k/\lW ns i a=true/\it (gN ns i k).2 a=m
 | 0,m,m0,m1=>by simp[gN] at m1;omega
 | k+1,m,m0,m1=>by
   have hl:=xH ns i k
   simp only[gN] at m1 ⊢;split at m1
   ·rename_i h;rw[if_pos h];simp only at m1 ⊢
    by_cases hm:m<(gN ns i k).1.length
    ·obtain⟨a,a0,a1,ha,he⟩:=xU ns i k m m0 hm
     exact⟨a,a0,by omega,ha,by rw[kY a0 (by omega)];exact he⟩
    ·simp at m1
     exact⟨k,by omega,by omega,h,by rw[wF (by omega)];omega⟩
   ·rename_i h;rw[if_neg h];simp only at m1 ⊢
    obtain⟨a,a0,a1,ha,he⟩:=xU ns i k m m0 m1
    exact⟨a,a0,by omega,ha,by rw[kY a0 (by omega)];exact he⟩
end Go.Ab.Tryz
section
namespace Go.Ab.Tryz
open Classical Go.Proofs Go.Ab
def F0 {ns:List Node} (hu:fK ns) {i k:Int} (k0:0<k) (k1:k<ns.length) (h:k≠i):lW ns i k=lW ns i (nd ns k).up:=PZ hu k0 k1 (Ne.symm h)
variable {ns:List Node} {i:Int}
theorem vS (hu:fK ns) {a:Int} (ha:lW ns i a=true):0<=it (gN ns i ns.length).2 a/\it (gN ns i ns.length).2 a<(gN ns i ns.length).1.length/\nd (gN ns i ns.length).1 (it (gN ns i ns.length).2 a)={ nd ns a with up:=if a=i then -1 else it (gN ns i ns.length).2 (nd ns a).up }:=by
 have h:=(Aq hu ha).2
 exact YG hu ns.length (Nat.le_refl _) a h.1 h.2 ha
theorem Qx (hu:fK ns) {a b:Int} (M7:a<b) (ha:lW ns i a=true) (hb:lW ns i b=true):it (gN ns i ns.length).2 a<it (gN ns i ns.length).2 b :=
 aAl hu (Nat.le_refl _) (Aq hu ha).2.1 M7 (Aq hu hb).2.2 ha hb
theorem aHy (hu:fK ns) {a b:Int} (ha:lW ns i a=true) (hb:lW ns i b=true) (h:it (gN ns i ns.length).2 a=it (gN ns i ns.length).2 b):a=b:=by
 rcases Int.lt_trichotomy a b with h1|h1|h1
 ·have:=Qx hu h1 ha hb;omega
 ·exact h1
 ·have:=Qx hu h1 hb ha;omega
theorem Gw (hu:fK ns) (hi:lW ns i i=true):it (gN ns i ns.length).2 i=0:=by
 obtain⟨h1,h2,_⟩:=vS hu hi
 obtain⟨a,a0,a1,ha,he⟩:=xU ns i ns.length 0 (Int.le_refl 0) (by omega)
 have:=Ue hu ha
 by_cases h:i=a
 ·rw[h] at he ⊢;rw[<- h] at he ⊢;exact he
 ·have:=Qx hu (show i<a by omega) hi ha
  omega
theorem F1 (hu:fK ns) {a:Int} (ha:lW ns i a=true) (h:a≠i):0<a/\(0<=(nd ns a).up/\(nd ns a).up<a)/\lW ns i (nd ns a).up=true:=by
 obtain⟨⟨i0,_⟩,a0,a1⟩:=Aq hu ha
 have:=Ue hu ha
 have hp:0<a:=by omega
 refine⟨hp,hu a hp a1, ?_⟩
 rw[<- AI hu a1 (by omega) i0];exact ha
theorem KU (hu:fK ns) (hi:lW ns i i=true):fK (gN ns i ns.length).1:=by
 intro m m0 m1;obtain⟨a,a0,a1,ha,rfl⟩:=xU ns i ns.length m (by omega) m1
 have Ug:a≠i:=by rintro rfl;rw[Gw hu hi] at m0;omega
 obtain⟨_,⟨u0,u1⟩,zM⟩:=F1 hu ha Ug
 rw[(vS hu ha).2.2];simp only[if_neg Ug];exact⟨(vS hu zM).1,Qx hu u1 zM ha⟩
theorem aHz (hu:fK ns) (hi:lW ns i i=true):∀(k:Nat) (a b:Int),b.toNat=k->lW ns i a=true->lW ns i b=true->lW (gN ns i ns.length).1 (it (gN ns i ns.length).2 a) (it (gN ns i ns.length).2 b)=lW ns a b:=by
 intro k;induction k using Nat.strongRecOn with
 | _ k ih =>
   intro a b hk ha hb;have hU:=KU hu hi
   obtain⟨p1,p2,p3⟩:=vS hu hb
   obtain⟨q1,q2,q3⟩:=vS hu ha
   by_cases M7:a=b
   ·subst M7;have e1:lW (gN ns i ns.length).1 (it (gN ns i ns.length).2 a) (it (gN ns i ns.length).2 a)=true:=decide_eq_true (nH hU p1 p2)
    have e2:lW ns a a=true:=decide_eq_true (nH hu (Aq hu ha).2.1 (Aq hu ha).2.2)
    rw[e1,e2]
   ·have gJ:it (gN ns i ns.length).2 a≠it (gN ns i ns.length).2 b:=fun h=>M7 (aHy hu ha hb h)
    by_cases hbi:b=i
    ·subst hbi;have e1:lW ns a b=false:=by
      rw[<- Bool.not_eq_true];intro h;exact M7 (aAj hu h ha)
     rw[e1,Gw hu hi,Qv (by omega)]
     rw[Gw hu hi] at gJ;simpa using gJ
    ·obtain⟨b0,⟨u0,u1⟩,zM⟩:=F1 hu hb hbi
     have uJ:0<it (gN ns i ns.length).2 b:=by
      have h1:=Qx hu u1 zM hb
      have:=(vS hu zM).1
      omega
     rw[F0 hU uJ p2 gJ.symm,p3];simp only[if_neg hbi];rw[ih (nd ns b).up.toNat (by omega) a _ rfl ha zM,<- F0 hu b0 (Aq hu hb).2.2 (Ne.symm M7)]
end Go.Ab.Tryz
end
namespace Go.Ab.Tryz
open Classical Go.Proofs Go.Ab
def rL (ns:List Node) (i:Int):Int :=
 if Ub (nd ns i).status=false\/(i=0/\(nd ns i).up≠-1)\/(0<i/\((nd ns i).up<0\/i<=(nd ns i).up)) then 2
 else if ∃j:Int,0<=j/\j<i/\(nd ns j).block.root=(nd ns i).block.root then 9
 else if i=0 then 0
 else if (nd ns i).block.parent≠(nd ns (nd ns i).up).block.root then 10
 else if (nd ns i).block.slot<=(nd ns (nd ns i).up).block.slot then 14
 else 0
def Em (ns:List Node):Nat->Int
 | 0=>0
 | k+1=>if Em ns k=0 then rL ns k else Em ns k
def Ok (ns:List Node):Int:=if ns.length=0\/4096<ns.length then 11 else Em ns ns.length
def stE (ns:List Node) (i:Int):Prop:=((nd ns i).status=1/\(nd ns (nd ns i).up).status≠1)\/((nd ns (nd ns i).up).status=2/\(nd ns i).status≠2)
def FN (ns:List Node):Int:=if Ok ns=0 then (if ∃i:Int,0<i/\i<ns.length/\stE ns i then 15 else 0) else Ok ns
structure Tx (ns:List Node):Prop where
 Ol:0<ns.length
 aDV:ns.length<=4096
 Ww:(nd ns 0).up=-1
 up:fK ns
 par:∀i:Int,0<i->i<ns.length->(nd ns i).block.parent=(nd ns (nd ns i).up).block.root
 slot:∀i:Int,0<i->i<ns.length->(nd ns (nd ns i).up).block.slot<(nd ns i).block.slot
 roots:∀i j:Int,0<=i->i<j->j<ns.length->(nd ns i).block.root≠(nd ns j).block.root
 st:∀i:Int,0<=i->i<ns.length->Ub (nd ns i).status=true
def QA (ns:List Node):Prop:=∀i:Int,0<i->i<ns.length->((nd ns i).status=1->(nd ns (nd ns i).up).status=1)/\((nd ns (nd ns i).up).status=2->(nd ns i).status=2)
def aAm {ns:List Node} (v:Tx ns) {i:Int} (i0:0<=i) (i1:i<ns.length):rL ns i=0:=by
 unfold rL;rw[if_neg,if_neg]
 ·by_cases h:i=0
  ·rw[if_pos h]
  ·rw[if_neg h,if_neg (fun hn=>hn (v.par i (by omega) i1)),if_neg]
   have:=v.slot i (by omega) i1
   omega
 ·rintro⟨j,j0,j1,hj⟩
  exact v.roots j i j0 j1 i1 hj
 ·rintro (h|⟨rfl,h⟩|⟨h0,h⟩)
  ·rw[v.st i i0 i1] at h;cases h
  ·exact h v.Ww
  ·have:=v.up i h0 i1;omega
def F2 {ns:List Node} (v:Tx ns):∀k:Nat,k<=ns.length->Em ns k=0
 | 0,_=>rfl
 | k+1,h=>by
   simp only[Em];rw[if_pos (F2 v k (by omega))]
   exact aAm v (by omega) (by omega)
def aDW {ns:List Node} (v:Tx ns):Ok ns=0:=by
 unfold Ok;have:=v.Ol
 have:=v.aDV
 rw[if_neg (by omega)]
 exact F2 v _ (Nat.le_refl _)
def aDX {ns:List Node} (c:QA ns) {i:Int} (i0:0<i) (i1:i<ns.length):¬stE ns i:=by
 obtain⟨h1,h2⟩:=c i i0 i1
 rintro (⟨h,h'⟩|⟨h,h'⟩)
 ·exact h' (h1 h)
 ·exact h' (h2 h)
def aDY {ns:List Node} (v:Tx ns) (c:QA ns):FN ns=0:=by
 unfold FN;rw[if_pos (aDW v),if_neg];rintro⟨i,i0,i1,h⟩
 exact aDX c i0 i1 h
def rts (ns:List Node) (k:Nat):List cC:=(ns.take k).map fun n=>n.block.root
def F3 {ns:List Node} {k:Nat} (hk:k<=ns.length) (r:cC):r∈rts ns k↔∃j:Int,0<=j/\j<k/\(nd ns j).block.root=r:=by
 unfold rts;rw[mem_map];constructor
 ·rintro⟨n,hn,rfl⟩
  obtain⟨j,hj,rfl⟩:=getElem_of_mem hn
  simp only[length_take] at hj;refine⟨j,by omega,by omega, ?_⟩
  have:j<ns.length:=by omega
  simp[nd,this]
 ·rintro⟨j,j0,j1,rfl⟩
  obtain⟨h,e⟩:=Jc (ns:=ns) j0 (by omega)
  refine⟨nd ns j, ?_,rfl⟩
  rw[e];exact mem_take_iff_getElem.2 ⟨j.toNat,by omega,rfl⟩
def ID {ns:List Node}:∀(d k:Nat),Em ns k=0->rL ns k≠0->Em ns (k+1+d)=rL ns k
 | 0,k,h,h2=>by simp only[Em,Nat.add_zero,h,if_true]
 | d+1,k,h,h2=>by
   have ih:=ID d k h h2
   rw[<- Nat.add_assoc];simp only[Em];rw[if_neg (by rw[ih];exact h2),ih]
def aDZ {ns:List Node} {k:Nat} (hk:k<ns.length) (h:Em ns k=0) (h2:rL ns k≠0):Em ns ns.length=rL ns k:=by
 obtain⟨d,hd⟩:∃d,ns.length=k+1+d:=⟨ns.length-(k+1),by omega⟩
 rw[hd];exact ID d k h h2
def Wx (st:St) (e:Option oA) (o:Nat):Option AV :=
 match e with
 | some (.cells cs)=>(cK (cs.map (xR st))).map fun ds=>.ip ds o
 | _=>none
def oV (st:St) (f s g o:Nat):fS st (.sH f [.ptr s g o])=(Wx st (st.heap s g) o).map fun y=>.sH f [y]:=by
 have hn:¬Flat (.sH f [.ptr s g o]):=by intro h;cases h with|sH _ _ h=>exact zN s g o (h _ (by simp))
 unfold fS Wx;rw[if_neg hn];simp only[map_cons,map_nil];unfold cN;rw[if_neg (zN s g o)];simp only
 cases st.heap s g with
 | none=>rfl
 | some e=>cases e with
   | cells cs =>
     simp only
     cases cK (cs.map (xR st))<;>rfl
   | _=>rfl
def tK (st:St) {cs:List AV} (h:∀c∈cs,Flat c) (o:Nat):Wx st (some (.cells cs)) o=some (.ip cs o):=by
 unfold Wx;simp only[Jg h,aAo]
def YH (st:St) (r:cC) (o:Nat):Wx st (some (.cells (bC r))) o=some (.ip (bC r) o):=tK st (dY r) o
def aPn (n:Node) (r:cC):aG prog 151 [.agg (fF n),.ip (bC r) 0]=some (.v (.bool (decide (n.block.root=r)))):=by
 rw[cL func151 rfl rfl];simp only[ZZ,seval];exact bT rfl (by simp only[EV,seval]) (.v _)
def aD0 (r:cC):Flat (.ip (bC r) 0):=.ip _ _ (dY r)
def aLv (n:Node) (r:cC) (st:St) (d:Option Nat):bH (aG prog) 151 ([.agg (fF n)]++[.ip (bC r) 0]) st d=some { dst:=d,val:=.v (.bool (decide (n.block.root=r)))}:=bE (bB (.agg _ (Om n)) (aD0 r)) (aPn n r) (.v _)
def aPo (ns:List Node) (hn:(ns.length:Int)<1000000) (r:cC):aG prog 150 [.sl ns.length (bV ns),.sH 151 [.ip (bC r) 0]]=some (.v (.int .i64 (aC ns r))):=by
 rw[cL func150 rfl rfl];simp only[ZZ,seval];refine jK (fun n st=>∃i:Int,(st.env 0=.sl ns.length (bV ns)/\st.env 1=.sH 151 [.ip (bC r) 0]/\st.env 7=.v (.int .i64 ns.length)/\st.env 8=.v (.int .i64 i))/\0<=i/\i<=ns.length/\n=(ns.length-i).toNat/\∀j,0<=j->j<i->(nd ns j).block.root≠r)
  (fun e st=>(e=.ret/\st.env 4=.v (.int .i64 (aC ns r)))\/(e=.exit 0/\aC ns r=-1)) ns.length ?step ?start ?rest
 case step =>
  rintro n st ⟨i,hI,i0,i1,Hu,hb⟩
  by_cases aW:i<ns.length
  ·have hw:i64.wrap (i+1)=i+1:=Ej _ (by omega) (by omega)
   by_cases hr:(nd ns i).block.root=r
   ·have hd:decide ((nd ns i).block.root=r)=true:=decide_eq_true hr
    apply oT (.ret)
    ·simp only[ZZ,seval,hI,aW,i0,aLv,hd];rfl
    ·exact .inl ⟨rfl,by simp only[EV,seval,PU i0 aW hr hb]⟩
   ·have hd:decide ((nd ns i).block.root=r)=false:=decide_eq_false hr
    apply oN ((ns.length-(i+1)).toNat)
    ·simp only[ZZ,seval,hI,aW,i0,aLv,hd,hw];rfl
    ·exact⟨i+1,by simp only[EV,seval,hI],by omega,by omega,rfl,fun j j0 j1=>by
     rcases Int.lt_or_eq_of_le (show j<=i by omega) with h|rfl
     ·exact hb j j0 h
     ·exact hr⟩
  ·apply oT (.exit 0)
   ·simp only[ZZ,seval,hI,aW,i0];rfl
   ·exact .inr ⟨rfl,AB fun j j0 j1=>hb j j0 (by omega)⟩
 case start=>exact⟨0,(by simp only[EV,seval]),by omega,by omega,by omega,fun j _ _=>by omega⟩
 case rest =>
  rintro e st (⟨rfl,h⟩|⟨rfl,h⟩)
  ·simp only[ZZ,seval];exact bT rfl h (.v _)
  ·simp only[ZZ,seval];exact bT rfl (by simp only[EV,seval,h]) (.v _)
def aPp (args:List AV) (st:St) (d:Option Nat):bH (aG prog) 150 args st d=uT (aG prog) 150 (cK (args.map (fS st))) (decide (∀x∈args,Flat x)) st d:=jY _ _ _ _ _
def aPq (ns:List Node) (hn:(ns.length:Int)<1000000) (r:cC) (fl:Bool) (st:St) (d:Option Nat):uT (aG prog) 150 (some [.sl ns.length (bV ns),.sH 151 [.ip (bC r) 0]]) fl st d=some { dst:=d,val:=.v (.int .i64 (aC ns r))}:=Wy (aPo ns hn r)
def aAn (st:St) (n:Nat) (l:List Node):fS st (.sl n (bV l))=some (.sl n (bV l)):=eC (.sl _ _ (iU l))
def c89 (ns:List Node) (r:cC) (hn:(ns.length:Int)<1000000):aG prog 89 [.agg (cH ⟨ns⟩),.agg (bC r)]=some (.v (.int .i64 (aC ns r))):=by
 rw[cL func89 rfl rfl];simp only[ZZ,seval,aPp,oV,YH,aAn,aPq,hn];exact bT rfl (by simp only[EV,seval]) (.v _)
def k89 (ns:List Node) (r:cC) (hn:(ns.length:Int)<1000000):KC 89 [.agg (cH ⟨ns⟩),.agg (bC r)] (.v (.int .i64 (aC ns r))):=fun _ _=>bE (bB (lL _) (rH _)) (c89 ns r hn) (.v _)
def YI {ns:List Node} {i:Int} (i0:0<=i) (h:rL ns i=0):Ub (nd ns i).status=true/\(i=0->(nd ns i).up=-1)/\(0<i->0<=(nd ns i).up/\(nd ns i).up<i)/\(∀j:Int,0<=j->j<i->(nd ns j).block.root≠(nd ns i).block.root) /\
 (0<i->(nd ns i).block.parent=(nd ns (nd ns i).up).block.root/\(nd ns (nd ns i).up).block.slot<(nd ns i).block.slot):=by
 unfold rL at h;by_cases h1:Ub (nd ns i).status=false\/(i=0/\(nd ns i).up≠-1)\/(0<i/\((nd ns i).up<0\/i<=(nd ns i).up))
 ·rw[if_pos h1] at h;omega
 ·rw[if_neg h1] at h;by_cases h2:∃j:Int,0<=j/\j<i/\(nd ns j).block.root=(nd ns i).block.root
  ·rw[if_pos h2] at h;omega
  ·rw[if_neg h2] at h;simp only[not_or,not_and] at h1;refine⟨by simpa using h1.1,fun hi=>Decidable.of_not_not (h1.2.1 hi),fun hi=>by have:=h1.2.2 hi;omega,fun j j0 j1 hj=>h2 ⟨j,j0,j1,hj⟩,fun hi=>?_⟩
   rw[if_neg (by omega)] at h
   by_cases h3:(nd ns i).block.parent≠(nd ns (nd ns i).up).block.root
   ·rw[if_pos h3] at h;omega
   ·rw[if_neg h3] at h;by_cases h4:(nd ns i).block.slot<=(nd ns (nd ns i).up).block.slot
    ·rw[if_pos h4] at h;omega
    ·exact⟨Decidable.of_not_not h3,by omega⟩
def QB {ns:List Node}:∀k:Nat,Em ns k=0->∀i:Int,0<=i->i<k->rL ns i=0
 | 0,_,i,i0,i1=>by omega
 | k+1,h,i,i0,i1=>by
   simp only[Em] at h;by_cases hk:Em ns k=0
   ·rw[if_pos hk] at h;by_cases hi:i<k
    ·exact QB k hk i i0 hi
    ·rw[show i=k by omega];exact h
   ·rw[if_neg hk] at h;exact absurd h hk
def M8 {ns:List Node} (h:Ok ns=0):Tx ns:=by
 unfold Ok at h;by_cases h0:ns.length=0\/4096<ns.length
 ·rw[if_pos h0] at h;omega
 ·rw[if_neg h0] at h;have hz:=fun i i0 i1=>YI (ns:=ns) (i:=i) i0 (QB _ h i i0 i1)
  exact⟨by omega,by omega,(hz 0 (by omega) (by omega)).2.1 rfl,fun i i0 i1=>(hz i (by omega) i1).2.2.1 i0,fun i i0 i1=>((hz i (by omega) i1).2.2.2.2 i0).1,fun i i0 i1=>((hz i (by omega) i1).2.2.2.2 i0).2,
   fun i j i0 i1 j1=>(hz j (by omega) j1).2.2.2.1 i i0 i1,fun i i0 i1=>(hz i i0 i1).1⟩
def aHA (l:List Int):AV:=if l=[] then .v (.slice none 0 0) else .uniq 3 1 l.length (aM l)
def AL:aHA []=.v (.slice none 0 0):=if_pos rfl
def F4 {l:List Int} (h:l≠[]):aHA l=.uniq 3 1 l.length (aM l):=if_neg h
def Wz (ns:List Node) (i:Int):Nat->List Int
 | 0=>[]
 | k+1=>if (nd ns k).up=i then Wz ns i k++[(k:Int)] else Wz ns i k
def Zd (ns:List Node) (i:Int):∀k,(Wz ns i k).length<=k
 | 0=>Nat.le_refl _
 | k+1=>by
   have:=Zd ns i k
   simp only[Wz];split
   ·simp;omega
   ·omega
def QC {ns:List Node} {i:Int}:∀k:Nat,(∀j:Int,0<=j->j<k->(nd ns j).up≠i)->Wz ns i k=[]
 | 0,_=>rfl
 | k+1,h=>by
   simp only[Wz];rw[if_neg (h k (by omega) (by omega))]
   exact QC k fun j j0 j1=>h j j0 (by omega)
def aLw {ns:List Node} (hu:fK ns) (hr:(nd ns 0).up=-1) {j:Int} (j0:0<=j) (j1:j<ns.length):(nd ns j).up<ns.length:=by
 by_cases h:j=0
 ·subst h;omega
 ·have:=hu j (by omega) j1;omega
def xV (ns:List Node) (i:Int):List Int:=if i<0 then [] else Wz ns i ns.length
def QD {ns:List Node} (hu:fK ns) (hr:(nd ns 0).up=-1) {i:Int} (h:¬(0<=i/\i<ns.length)):xV ns i=[]:=by
 unfold xV;split
 ·rfl
 ·exact QC _ fun j j0 j1=>by have:=aLw hu hr j0 j1;omega
def aLx (ns:List Node) (hu:fK ns) (hr:(nd ns 0).up=-1) (hn:(ns.length:Int)<1000000) (i:Int):aG prog 245 [.agg (cH ⟨ns⟩),.v (.int .i64 i)]=some (aHA (xV ns i)):=by
 rw[cL func245 rfl rfl];by_cases hm:0<=i/\i<ns.length
 ·have hd:(decide (0<=i) && decide (i<ns.length))=true:=by simp[hm.1,hm.2]
  rw[show xV ns i=Wz ns i ns.length from if_neg (by omega)]
  simp only[ZZ,seval];refine jK (fun n st=>∃k:Nat,(st.env 1=.v (.int .i64 i)/\st.env 2=.ptr 2 0 0/\st.heap 2 0=some (.cells (cH ⟨ns⟩))/\st.env 6=.v (.int .i64 k)) /\
   ((Wz ns i k=[]/\st.env 5=.v (.slice none 0 0))\/(Wz ns i k≠[]/\∃g,st.env 5=.own 30 g/\g<st.aQ 30/\st.heap 30 g=some (.row 3 1 (Wz ns i k).length (aM (Wz ns i k)))))/\k<=ns.length/\n=ns.length-k)
   (fun e st=>e=.exit 0/\((Wz ns i ns.length=[]/\st.env 5=.v (.slice none 0 0))\/(Wz ns i ns.length≠[]/\∃g,st.env 5=.own 30 g/\g<st.aQ 30/\st.heap 30 g=some (.row 3 1 (Wz ns i ns.length).length (aM (Wz ns i ns.length)))))) ns.length ?step ?start ?rest
  case step =>
   rintro n st ⟨k,hI,h5,hk,Hu⟩
   have hl:=Zd ns i k
   have Iv:((Wz ns i k).length:Int)<1000000:=by omega
   by_cases aW:(k:Int)<ns.length
   ·have hw:i64.wrap ((k:Int)+1)=((k+1:Nat):Int):=by rw[Ej _ (by omega) (by omega)];omega
    have q0:(0:Int)<=k:=by omega
    by_cases hu:(nd ns k).up=i
    ·have hq:((nd ns k).up == i)=true:=by simp[hu]
     have hs:Wz ns i (k+1)=Wz ns i k++[(k:Int)]:=by simp only[Wz,hu,if_true]
     rcases h5 with ⟨hy,h5⟩|⟨hy,g,h5⟩
     ·rw[hy] at hs;apply oN (ns.length-(k+1))
      ·simp only[ZZ,seval,hI,h5,aW,hw,q0,hq,XI,hd];rfl
      ·exact⟨k+1,by simp only[EV,seval,hI],.inr ⟨by rw[hs];simp,_,by simp only[EV,seval]<;>rfl,(by simp only[EV,seval]<;>omega),(by rw[hs];simp only[EV,seval]<;>rfl)⟩,by omega,rfl⟩
     ·apply oN (ns.length-(k+1))
      ·simp only[ZZ,seval,hI,h5,Iv,aW,hw,q0,hq,XI,hd];rfl
      ·exact⟨k+1,by simp only[EV,seval,hI],.inr ⟨by rw[hs];simp,_,by simp only[EV,seval]<;>rfl,(by simp only[EV,seval]<;>omega),(by rw[hs];simp only[EV,seval]<;>rfl)⟩,by omega,rfl⟩
    ·have hq:((nd ns k).up == i)=false:=by simp[hu]
     have hs:Wz ns i (k+1)=Wz ns i k:=by simp only[Wz,hu,if_false]
     apply oN (ns.length-(k+1))
     ·simp only[ZZ,seval,hI,aW,hw,q0,hq,XI,hd];rfl
     ·exact⟨k+1,by simp only[EV,seval,hI],by rw[hs];simpa only[EV,seval] using h5,by omega,rfl⟩
   ·obtain rfl:k=ns.length:=by omega
    apply oT (.exit 0)
    ·simp only[ZZ,seval,hI,aW];rfl
    ·exact⟨rfl,by simpa only[EV,seval] using h5⟩
  case start=>exact⟨0,(by simp only[EV,seval]),.inl ⟨rfl,(by simp only[EV,seval])⟩,by omega,rfl⟩
  case rest =>
   rintro e st ⟨rfl,⟨hy,h5⟩|⟨hy,g,h5,hg,Bz⟩⟩
   ·rw[hy,AL];simp only[ZZ,seval,h5];exact bT rfl (by simp only[EV,seval]) (.v _)
   ·rw[F4 hy];simp only[ZZ,seval,h5,Bz];exact uK rfl (by simp only[EV,seval];rfl) (by simp only[EV,seval,Bz]) (gG _)
 ·have hd:(decide (0<=i) && decide (i<ns.length))=false:=by
   rw[<- Bool.not_eq_true];simpa using hm
  rw[QD hu hr hm,AL];by_cases h0:(0:Int)<ns.length
  ·simp only[ZZ,seval,Jd,XI,hd,h0];exact bT rfl (by simp only[EV,seval]) (.v _)
  ·simp only[ZZ,seval,Jd,XI,hd,h0];exact bT rfl (by simp only[EV,seval]) (.v _)
def aLy (ns:List Node) (hu:fK ns) (hr:(nd ns 0).up=-1) (hn:(ns.length:Int)<1000000) (i:Int) (h:xV ns i≠[]) (st:St) (d:Nat):bH (aG prog) 245 [.agg (cH ⟨ns⟩),.v (.int .i64 i)] st (some d)=some { dst:=some d,val:=.own d (st.aQ d),new:=some (d,[.row 3 1 (xV ns i).length (aM (xV ns i))])}:=by
 have hc:=aLx ns hu hr hn i
 rw[F4 h] at hc;exact jM (bB (lL _) (.v _)) hc
def aGv (ns:List Node) (hu:fK ns) (hr:(nd ns 0).up=-1) (hn:(ns.length:Int)<1000000) (i:Int) (h:xV ns i=[]) (st:St) (d:Option Nat):bH (aG prog) 245 [.agg (cH ⟨ns⟩),.v (.int .i64 i)] st d=some { dst:=d,val:=.v (.slice none 0 0)}:=by
 have hc:=aLx ns hu hr hn i
 rw[h,AL] at hc;exact bE (bB (lL _) (.v _)) hc (.v _)
end Go.Ab.Tryz
