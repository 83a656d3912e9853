/-
  Part 10 of the proof: an evaluator of programs, its soundness, and what functions of this program compute.
-/
import Derived.Test.YtmcjkemalibacaaGreatK9
import Derived.Test.YtmcjkemalibacaaGreatK7
set_option linter.all false
set_option maxRecDepth 20000
set_option maxHeartbeats 40000000
namespace Go.Ab.Tryz
open Classical Go.Proofs Go.Ab
theorem Ia (x:Int) (h1:-9223372036854775808≤x) (h2:x≤9223372036854775807):IntKind.i64.wrap x=x:=wrap_i64 x h1 h2
theorem c87 (ns:List Node) (i:Int):aC Tryz.prog 87 [.agg (cT ⟨ns⟩),.v (.int .i64 i)]=some (.v (.bool (decide (0≤i) && decide (i<ns.length)))):=by
 rw[cL Tryz.func87 rfl aOb rfl];by_cases h:0≤i
 all_goals
  simp only[ZZ,seval,h,decide_true,decide_false,Bool.false_eq_true,Bool.true_and,Bool.false_and];exact bS rfl (by simp only[EV,seval]) (.v _)
theorem UC (ns:List Node) (i:Int) (st:St) (d:Option Nat):aM (aC Tryz.prog) 87 [.agg (cT ⟨ns⟩),.v (.int .i64 i)] st d=some { dst:=d,val:=.v (.bool (decide (0≤i) && decide (i<ns.length)))}:=bI (bG (mZ _) (.v _)) (c87 ns i) (.v _)
def UR (n:Int):Bool:=decide (0≤n) && decide (n≤2)
theorem aOc (i:Int):aC Tryz.prog 186 [.v (.int .i64 i)]=some (.v (.bool (UR i))):=by
 rw[cL Tryz.func186 rfl aI7 rfl];by_cases h:0≤i
 all_goals
  simp only[ZZ,seval,h,decide_true,decide_false,Bool.false_eq_true,Bool.true_and,Bool.false_and];exact bS rfl (by simp only[EV,seval,UR,h,decide_true,decide_false,Bool.false_and,Bool.true_and]) (.v _)
noncomputable def aO (ns:List Node) (r:cA):Int:=match ns.findIdx? (fun n=>decide (n.block.root=r)) with
 | some k=>(k:Int)
 | none=>-1
theorem NC {ns:List Node} {r:cA} {i:Int} (h0:0≤i) (h1:i<ns.length) (hr:(nd ns i).block.root=r) (hb:∀j,0≤j→j<i→(nd ns j).block.root≠r):aO ns r=i:=by
 obtain⟨hi,e⟩:=Mz h0 h1
 have:ns.findIdx? (fun n=>decide (n.block.root=r))=some i.toNat:=by
  rw[List.findIdx?_eq_some_iff_getElem];refine⟨hi,by simp[← e,hr],fun j hj=>?_⟩
  have h:=hb j (by omega) (by omega)
  have UD:j<ns.length:=by omega
  simp[nd,UD] at h
  simpa using h
 unfold aO;rw[this];simp;omega
theorem Yb {ns:List Node} {r:cA} (hb:∀j,0≤j→j<(ns.length:Int)→(nd ns j).block.root≠r):aO ns r=-1:=by
 have:ns.findIdx? (fun n=>decide (n.block.root=r))=none:=by
  rw[List.findIdx?_eq_none_iff];intro n hn;obtain⟨j,hj,rfl⟩:=List.getElem_of_mem hn
  have h:=hb j (by omega) (by omega)
  simp[nd,hj] at h
  simpa using h
 unfold aO;rw[this]
theorem c46 (ns:List Node) (r:cA) (hn:(ns.length:Int)<1000000):aC Tryz.prog 46 [.agg (cT ⟨ns⟩),.agg (aV r)]=some (.v (.int .i64 (aO ns r))):=by
 rw[cL Tryz.func46 rfl aOd rfl];simp only[ZZ,seval];refine lM (fun n st=>∃i:Int,st.env 2=.ptr 2 0 0∧st.env 3=.ptr 3 0 0∧st.heap 2 0=some (.cells (cT ⟨ns⟩))∧st.heap 3 0=some (.cells (aV r))∧st.env 5=.v (.int .i64 i)∧0≤i∧i≤ns.length∧n=(ns.length-i).toNat ∧
  ∀j,0≤j→j<i→(nd ns j).block.root≠r)
  (fun e st=>(e=.ret∧st.env 4=.v (.int .i64 (aO ns r)))∨(e=.exit 0∧aO ns r=-1)) ns.length ?step ?start ?rest
 case step =>
  rintro n st ⟨i,h2,h3,uX,US,h5,i0,i1,Ju,hb⟩
  by_cases aY:i<ns.length
  ·have hw:IntKind.i64.wrap (i+1)=i+1:=Ia _ (by omega) (by omega)
   by_cases hr:(nd ns i).block.root=r
   ·apply oT (.ret)
    ·simp only[ZZ,seval,h2,h3,uX,US,h5,aY,i0,hr];rfl
    ·exact .inl ⟨rfl,by simp only[EV,seval,NC i0 aY hr hb]⟩
   ·apply oN ((ns.length-(i+1)).toNat)
    ·simp only[ZZ,seval,h2,h3,uX,US,h5,aY,i0,hr,hw];rfl
    ·exact⟨i+1,by simp only[EV,seval,h2],by simp only[EV,seval,h3],by simp only[EV,seval,uX],by simp only[EV,seval,US],(by simp only[EV,seval]),by omega,by omega,rfl,fun j j0 j1=>by
     rcases Int.lt_or_eq_of_le (show j≤i by omega) with h|rfl
     ·exact hb j j0 h
     ·exact hr⟩
  ·apply oT (.exit 0)
   ·simp only[ZZ,seval,h2,h3,uX,US,h5,aY,i0];rfl
   ·exact .inr ⟨rfl,Yb fun j j0 j1=>hb j j0 (by omega)⟩
 case start=>exact⟨0,(by simp only[EV,seval]),(by simp only[EV,seval]),(by simp only[EV,seval]),(by simp only[EV,seval]),(by simp only[EV,seval]),by omega,by omega,by omega,fun j _ _=>by omega⟩
 case rest =>
  rintro e st (⟨rfl,h⟩|⟨rfl,h⟩)
  ·simp only[ZZ,seval];exact bS rfl h (.v _)
  ·simp only[ZZ,seval];exact bS rfl (by simp only[EV,seval,h]) (.v _)
theorem q49 (args:List AV) (st:St) (d:Option Nat):aM (aC Tryz.prog) 49 args st d=sN (aC Tryz.prog) 49 (cM (args.map (fG st))) (decide (∀x∈args,Flat x)) st d:=lN _ _ _ _ _
theorem c49 (l:List Int) (a:Int) (hn:(l.length:Int)<1000000):aC Tryz.prog 49 [.sl l.length (aJ l),.v (.int .i64 a)]=some (.v (.bool (decide (a∈l)))):=by
 rw[cL Tryz.func49 rfl aI8 rfl];simp only[ZZ,seval];refine lM (fun n st=>∃i:Int,st.env 0=.sl l.length (aJ l)∧st.env 1=.v (.int .i64 a)∧st.env 5=.v (.int .i64 i)∧0≤i∧i≤l.length∧n=(l.length-i).toNat∧∀j,0≤j→j<i→it l j≠a)
  (fun e st=>(e=.ret∧st.env 4=.v (.bool (decide (a∈l))))∨(e=.exit 0∧decide (a∈l)=false)) l.length ?step ?start ?rest
 case step =>
  rintro n st ⟨i,h0,h1,h5,i0,i1,Ju,hb⟩
  by_cases aY:i<l.length
  ·have hw:IntKind.i64.wrap (i+1)=i+1:=Ia _ (by omega) (by omega)
   obtain⟨hi,he⟩:=xN i0 aY
   by_cases hr:it l i=a
   ·have hm:decide (a∈l)=true:=by rw[decide_eq_true_eq,← hr,he];exact List.getElem_mem hi
    have hbq:(it l i == a)=true:=by simp[hr]
    apply oT (.ret)
    ·simp only[ZZ,seval,h0,h1,h5,aY,i0,hbq];rfl
    ·exact .inl ⟨rfl,by simp only[EV,seval,hm]⟩
   ·have hbq:(it l i == a)=false:=by simp[hr]
    apply oN ((l.length-(i+1)).toNat)
    ·simp only[ZZ,seval,h0,h1,h5,aY,i0,hbq,hw];rfl
    ·exact⟨i+1,by simp only[EV,seval,h0],by simp only[EV,seval,h1],(by simp only[EV,seval]),by omega,by omega,rfl,fun j j0 j1=>by
     rcases Int.lt_or_eq_of_le (show j≤i by omega) with h|rfl
     ·exact hb j j0 h
     ·exact hr⟩
  ·apply oT (.exit 0)
   ·simp only[ZZ,seval,h0,h1,h5,aY,i0];rfl
   ·exact .inr ⟨rfl,by
    rw[decide_eq_false_iff_not];intro hm;obtain⟨j,hj,rfl⟩:=List.getElem_of_mem hm
    exact hb j (by omega) (by omega) (by simp[it,hj])⟩
 case start=>exact⟨0,(by simp only[EV,seval]),(by simp only[EV,seval]),(by simp only[EV,seval]),by omega,by omega,by omega,fun j _ _=>by omega⟩
 case rest =>
  rintro e st (⟨rfl,h⟩|⟨rfl,h⟩)
  ·simp only[ZZ,seval];exact bS rfl h (.v _)
  ·simp only[ZZ,seval];exact bS rfl (by simp only[EV,seval,h]) (.v _)
theorem aI9 (a:Int):aC Tryz.prog 49 [.v (.slice none 0 0),.v (.int .i64 a)]=some (.v (.bool false)):=by
 rw[cL Tryz.func49 rfl aI8 rfl];simp only[ZZ,seval,Ib,Int.natCast_zero,Int.lt_irrefl,decide_false];exact bS rfl (by simp only[EV,seval]) (.v _)
theorem k49 (l:List Int) (a:Int) (hn:(l.length:Int)<1000000) (fl:Bool) (st:St) (d:Option Nat):sN (aC Tryz.prog) 49 (some [.sl l.length (aJ l),.v (.int .i64 a)]) fl st d=some { dst:=d,val:=.v (.bool (decide (a∈l)))}:=IC (c49 l a hn)
theorem aOe (a:Int) (fl:Bool) (st:St) (d:Option Nat):sN (aC Tryz.prog) 49 (some [.v (.slice none 0 0),.v (.int .i64 a)]) fl st d=some { dst:=d,val:=.v (.bool false)}:=IC (aI9 a)
def iA (ns:List Node):Prop:=∀i:Int,0<i→i<ns.length→0≤(nd ns i).up∧(nd ns i).up<i
def Yc (ns:List Node):Nat→Int→List Int
 | 0,_=>[]
 | f+1,i=>if i=0 then [0] else Yc ns f (nd ns i).up++[i]
def path (ns:List Node) (i:Int):List Int:=if 0≤i∧i<ns.length then Yc ns (i.toNat+1) i else []
theorem Yd {ns:List Node} (h:iA ns):∀(f g:Nat) (i:Int),0≤i→i<ns.length→i.toNat<f→i.toNat<g→Yc ns f i=Yc ns g i
 | 0,_,i,_,_,h1,_=>by omega
 | f+1,0,i,_,_,_,h2=>by omega
 | f+1,g+1,i,i0,i1,h1,h2=>by
   simp only[Yc];by_cases hi:i=0
   ·rw[if_pos hi,if_pos hi]
   ·obtain⟨u0,u1⟩:=h i (by omega) i1
    rw[if_neg hi,if_neg hi,Yd h f g (nd ns i).up u0 (by omega) (by omega) (by omega)]
theorem rI {ns:List Node} (h:0<ns.length):path ns 0=[0]:=by
 unfold path;rw[if_pos ⟨by omega,by omega⟩]
 rfl
theorem rK {ns:List Node} (h:iA ns) {i:Int} (i0:0<i) (i1:i<ns.length):path ns i=path ns (nd ns i).up++[i]:=by
 obtain⟨u0,u1⟩:=h i i0 i1
 unfold path;rw[if_pos ⟨by omega,i1⟩,if_pos ⟨u0,by omega⟩]
 show Yc ns (i.toNat+1) i=_
 rw[Yc,if_neg (by omega)]
 rw[Yd h i.toNat ((nd ns i).up.toNat+1) (nd ns i).up u0 (by omega) (by omega) (by omega)]
theorem yQ {ns:List Node} {i:Int} (h:¬(0≤i∧i<ns.length)):path ns i=[]:=if_neg h
theorem O9 {ns:List Node} (h:iA ns):∀(k:Nat) (i:Int),i.toNat=k→0≤i→i<ns.length→(path ns i).length≤i+1:=by
 intro k;induction k using Nat.strongRecOn with
 | _ k ih =>
   intro i hk i0 i1;by_cases hi:i=0
   ·subst hi;rw[rI (by omega)];simp
   ·obtain⟨u0,u1⟩:=h i (by omega) i1
    rw[rK h (by omega) i1]
    have:=ih (nd ns i).up.toNat (by omega) _ rfl u0 (by omega)
    simp only[List.length_append,List.length_singleton];omega
theorem Bi {ns:List Node} (h:iA ns) (i:Int):((path ns i).length:Int)≤ns.length:=by
 by_cases hi:0≤i∧i<ns.length
 ·have:=O9 h _ i rfl hi.1 hi.2;omega
 ·rw[yQ hi];simp
theorem aOf (ns:List Node) (i:Int) (h:¬(0≤i∧i<ns.length)):aC Tryz.prog 76 [.agg (cT ⟨ns⟩),.v (.int .i64 i)]=some (.v (.slice none 0 0)):=by
 rw[cL Tryz.func76 rfl aJa rfl];have hd:(decide (0≤i) && decide (i<ns.length))=false:=by
  rw[← Bool.not_eq_true];simpa using h
 simp only[ZZ,seval,UC,hd];exact bS rfl (by simp only[EV,seval]) (.v _)
theorem c76 (ns:List Node) (hu:iA ns) (hn:(ns.length:Int)<1000000):∀(k:Nat) (i:Int),i.toNat=k→0≤i→i<ns.length→aC Tryz.prog 76 [.agg (cT ⟨ns⟩),.v (.int .i64 i)]=some (.uniq 3 1 (path ns i).length (aJ (path ns i))):=by
 intro k;induction k using Nat.strongRecOn with
 | _ k ih =>
   intro i hk i0 i1;have hd:(decide (0≤i) && decide (i<ns.length))=true:=by simp[i0,i1]
   rw[cL Tryz.func76 rfl aJa rfl];by_cases hi:i=0
   ·subst hi;simp only[ZZ,seval,UC,hd,i1,beq_self_eq_true];exact tC rfl (by simp only[EV,seval];rfl) (by simp only[EV,seval,rI (show 0<ns.length by omega)];rfl) (gD _)
   ·obtain⟨u0,u1⟩:=hu i (by omega) i1
    have hq:(i == 0)=false:=by simp[hi]
    have hr:=ih (nd ns i).up.toNat (by omega) _ rfl u0 (by omega)
    have hc:∀(st:St) (d:Nat),aM (aC Tryz.prog) 76 [.agg (cT ⟨ns⟩),.v (.int .i64 (nd ns i).up)] st (some d)=some { dst:=some d,val:=.own d (st.aP d),new:=some (d,[.row 3 1 (path ns (nd ns i).up).length (aJ (path ns (nd ns i).up))])}:=fun st d=>jF (bG (mZ _) (.v _)) hr
    have hl:((path ns (nd ns i).up).length:Int)<1000000:=by have:=Bi hu (nd ns i).up;omega
    simp only[ZZ,seval,UC,hd,hq,i0,i1,hc,hl];exact tC rfl (by simp only[EV,seval];rfl) (by simp only[EV,seval,rK hu (show 0<i by omega) i1]) (gD _)
theorem k76 (ns:List Node) (hu:iA ns) (hn:(ns.length:Int)<1000000) (i:Int) (i0:0≤i) (i1:i<ns.length) (st:St) (d:Nat):aM (aC Tryz.prog) 76 [.agg (cT ⟨ns⟩),.v (.int .i64 i)] st (some d)=some { dst:=some d,val:=.own d (st.aP d),new:=some (d,[.row 3 1 (path ns i).length (aJ (path ns i))])}:=jF (bG (mZ _) (.v _)) (c76 ns hu hn _ i rfl i0 i1)
theorem A9 (ns:List Node) (i:Int) (h:¬(0≤i∧i<ns.length)) (st:St) (d:Option Nat):aM (aC Tryz.prog) 76 [.agg (cT ⟨ns⟩),.v (.int .i64 i)] st d=some { dst:=d,val:=.v (.slice none 0 0)}:=bI (bG (mZ _) (.v _)) (aOf ns i h) (.v _)
def Bj (ns:List Node) (a b:Int):Bool:=decide (a∈path ns b)
theorem c47 (ns:List Node) (hu:iA ns) (hn:(ns.length:Int)<1000000) (a b:Int):aC Tryz.prog 47 [.agg (cT ⟨ns⟩),.v (.int .i64 a),.v (.int .i64 b)]=some (.v (.bool (Bj ns a b))):=by
 rw[cL Tryz.func47 rfl aOg rfl];by_cases hb:0≤b∧b<ns.length
 ·have hl:((path ns b).length:Int)<1000000:=by have:=Bi hu b;omega
  simp only[ZZ,seval,k76 ns hu hn b hb.1 hb.2,q49,k49,hl];exact bS rfl (by simp only[EV,seval,Bj]) (.v _)
 ·simp only[ZZ,seval,A9 ns b hb,q49,aOe];exact bS rfl (by simp only[EV,seval,Bj,yQ hb,List.not_mem_nil,decide_false]) (.v _)
theorem Pj (ns:List Node) (hu:iA ns) (hn:(ns.length:Int)<1000000) (a b:Int) (st:St) (d:Option Nat):aM (aC Tryz.prog) 47 [.agg (cT ⟨ns⟩),.v (.int .i64 a),.v (.int .i64 b)] st d=some { dst:=d,val:=.v (.bool (Bj ns a b))}:=bI (nA (mZ _) (.v _) (.v _)) (c47 ns hu hn a b) (.v _)
theorem aBP:Flat (.agg [.v (.slice none 0 0)]):=.agg _ (by simp;exact .v _)
theorem Jw (x m:Int) (hm:0≤m∧m<9223372036854775808):0≤IntKind.i64.wrap ↑(BitVec.ofInt IntKind.i64.bits x &&& BitVec.ofInt IntKind.i64.bits m).toNat∧IntKind.i64.wrap ↑(BitVec.ofInt IntKind.i64.bits x &&& BitVec.ofInt IntKind.i64.bits m).toNat≤m:=by
 have h0:(BitVec.ofInt IntKind.i64.bits x &&& BitVec.ofInt IntKind.i64.bits m).toNat≤(BitVec.ofInt IntKind.i64.bits m).toNat:=by rw[BitVec.toNat_and];exact Nat.and_le_right
 have hb:IntKind.i64.bits=64:=rfl
 have h:(BitVec.ofInt IntKind.i64.bits (m:Int)).toNat=m.toNat:=by
  rw[BitVec.toNat_ofInt,hb];omega
 rw[h] at h0;rw[Ia _ (by omega) (by omega)]
 omega
theorem UT {i n:Int} (h:0≤i) (hn:0<n):0≤i.tdiv n∧i.tdiv n≤i:=by
 rw[Int.tdiv_eq_ediv_of_nonneg h];exact⟨Int.ediv_nonneg h (by omega),Int.ediv_le_self n h⟩
theorem eA {i n:Int} (h:0≤i) (hn:0<n):0≤i.tmod n∧i.tmod n<n:=by
 rw[Int.tmod_eq_emod_of_nonneg h];exact⟨Int.emod_nonneg i (by omega),Int.emod_lt_of_pos i hn⟩
theorem Bk {i:Int} (h:0≤i) (s:Nat):0≤i.fdiv (2 ^ s):=by
 have h2:(0:Int)≤2 ^ s:=Int.pow_nonneg (by decide)
 rw[Int.fdiv_eq_ediv_of_nonneg _ h2];exact Int.ediv_nonneg h h2
theorem aJb (l:List Int) (hl:(l.length:Int)≤9223372036854775807) (i:Int) (i0:0≤i) (i1:i<1000000):∃k:Int,aC Tryz.prog 145 [.sl l.length (aJ l),.v (.int .i64 i)]=some (.v (.int .i64 k))∧0≤k∧k≤17777215:=by
 rw[cL Tryz.func145 rfl aJc rfl];by_cases h:(l.length:Int)=0
 ·have hq:((l.length:Int) == 0)=true:=by simp[h]
  simp only[ZZ,seval,hq];obtain⟨b1,b2⟩:=Jw i 65535 (by decide)
  exact⟨_,bS rfl (by simp only[EV,seval]<;>rfl) (.v _),b1,by omega⟩
 ·have hq:((l.length:Int) == 0)=false:=by rw[beq_eq_false_iff_ne];exact h
  obtain⟨m1,m2⟩:=eA (n:=(l.length:Int)) i0 (by omega)
  obtain⟨d1,d2⟩:=UT (n:=(l.length:Int)) i0 (by omega)
  simp only[ZZ,seval,hq,h,m1,m2];obtain⟨b1,b2⟩:=Jw (it l (i.tmod ↑l.length)) 16777215 (by decide)
  refine⟨_,bS rfl (by simp only[EV,seval]<;>rfl) (.v _), ?_, ?_⟩
  all_goals
   rw[Ia (i.tdiv ↑l.length) (by omega) (by omega),Ia _ (by omega) (by omega)]
   omega
noncomputable def ID (l:List Int) (i:Int):Int:=if h:((l.length:Int)≤9223372036854775807∧0≤i∧i<1000000) then Classical.choose (aJb l h.1 i h.2.1 h.2.2) else 0
theorem Pk (l:List Int) (hl:(l.length:Int)≤9223372036854775807) (i:Int) (i0:0≤i) (i1:i<1000000):aC Tryz.prog 145 [.sl l.length (aJ l),.v (.int .i64 i)]=some (.v (.int .i64 (ID l i)))∧0≤ID l i∧ID l i≤17777215:=by
 have h:((l.length:Int)≤9223372036854775807∧0≤i∧i<1000000):=⟨hl,i0,i1⟩
 unfold ID;rw[dif_pos h];exact Classical.choose_spec (aJb l h.1 i h.2.1 h.2.2)
theorem Pl (l:List Int) (hl:(l.length:Int)≤9223372036854775807) (i:Int) (i0:0≤i) (i1:i<1000000) (st:St) (d:Option Nat):aM (aC Tryz.prog) 145 [.sl l.length (aJ l),.v (.int .i64 i)] st d=some { dst:=d,val:=.v (.int .i64 (ID l i))}:=bI (bG (Sl l) (.v _)) (Pk l hl i i0 i1).1 (.v _)
def mkRoot (n:Int):cA:=((dE.set 0 (IntKind.u8.wrap n)).set 1 (IntKind.u8.wrap (n.fdiv (2 ^ min 8 IntKind.i64.bits)))).set 31 (IntKind.u8.wrap (IntKind.i64.wrap (n * 7)))
theorem c30 (n:Int):aC Tryz.prog 30 [.v (.int .i64 n)]=some (.agg (aV (mkRoot n))):=by
 rw[cL Tryz.func30 rfl aOh rfl];simp only[ZZ,seval,Ye,Nat.reduceLT];exact fI rfl (by simp only[EV,seval];rfl) (by simp only[ZZ,seval];rfl) (.agg _ (dF _))
theorem Pm (n:Int) (st:St) (d:Option Nat):aM (aC Tryz.prog) 30 [.v (.int .i64 n)] st d=some { dst:=d,val:=.agg (aV (mkRoot n))}:=bI (cU (.v _)) (c30 n) (qP _)
theorem aOi (b:Block) (s:Int):aC Tryz.prog 157 [.agg (aT b),.v (.int .i64 s)]=some (.agg (cT ⟨[⟨b,-1,s⟩]⟩)):=by
 rw[cL Tryz.func157 rfl aJd rfl];simp only[ZZ,seval];exact eB rfl (by simp only[EV,seval];rfl) (by simp only[ZZ,seval];rfl) (by simp only[EV,seval,Option.map_some]<;>rfl)
theorem aOj (b:Block) (s:Int) (st:St) (d:Option Nat):aM (aC Tryz.prog) 157 [.agg (aT b),.v (.int .i64 s)] st d=some { dst:=d,val:=.agg (cT ⟨[⟨b,-1,s⟩]⟩)}:=bI (bG (vC _) (.v _)) (aOi b s) (mZ _)
theorem B0 (i:Int) (st:St) (d:Option Nat):aM (aC Tryz.prog) 186 [.v (.int .i64 i)] st d=some { dst:=d,val:=.v (.bool (UR i))}:=bI (cU (.v _)) (aOc i) (.v _)
theorem mQ (ns:List Node) (r:cA) (hn:(ns.length:Int)<1000000) (st:St) (d:Option Nat):aM (aC Tryz.prog) 46 [.agg (cT ⟨ns⟩),.agg (aV r)] st d=some { dst:=d,val:=.v (.int .i64 (aO ns r))}:=bI (bG (mZ _) (qP _)) (c46 ns r hn) (.v _)
noncomputable def Vy (ns:List Node) (b:Block) (s:Int):Int :=
 if UR s=false then 2 else if 0≤aO ns b.root then 9 else if aO ns b.parent<0 then 10 else if b.slot≤(nd ns (aO ns b.parent)).block.slot then 14 else if 4096≤(ns.length:Int) then 11 else 0
noncomputable def Fo (ns:List Node) (b:Block) (s:Int):AV :=
 if Vy ns b s=0 then .eG [.agg (cT ⟨ns++[⟨b,aO ns b.parent,s⟩]⟩),.v (.int .i64 0)] else .eG [.agg [.v (.slice none 0 0)],.v (.int .i64 (Vy ns b s))]
theorem fN (ns:List Node) (r:cA):-1≤aO ns r∧aO ns r<ns.length:=by
 unfold aO;cases h:ns.findIdx? (fun n=>decide (n.block.root=r)) with
 | none=>simp only;omega
 | some k =>
   have:=(List.findIdx?_eq_some_iff_getElem.1 h).1
   simp only;omega
theorem aOk (ns:List Node) (hn:(ns.length:Int)<1000000) (b:Block) (s:Int):aC Tryz.prog 149 [.agg (cT ⟨ns⟩),.agg (aT b),.v (.int .i64 s)]=some (Fo ns b s):=by
 rw[cL Tryz.func149 rfl aJe rfl];have hu:=fN ns b.parent
 cases hs:UR s
 ·simp only[ZZ,seval,B0,hs];rw[show Fo ns b s=.eG [.agg [.v (.slice none 0 0)],.v (.int .i64 2)] from by simp[Fo,Vy,hs]]
  exact dO rfl (by simp only[bT,ZZ,seval];rfl) (by simp only[bT,EV,seval]<;>rfl) (by simp only[EV,seval]<;>rfl) (by simp only[EV,seval]<;>rfl)
 by_cases h1:0≤aO ns b.root
 ·simp only[ZZ,seval,B0,hs,mQ,hn,h1];rw[show Fo ns b s=.eG [.agg [.v (.slice none 0 0)],.v (.int .i64 9)] from by simp[Fo,Vy,hs,h1]]
  exact dO rfl (by simp only[bT,ZZ,seval];rfl) (by simp only[bT,EV,seval]<;>rfl) (by simp only[EV,seval]<;>rfl) (by simp only[EV,seval]<;>rfl)
 by_cases h2:aO ns b.parent<0
 ·simp only[ZZ,seval,B0,hs,mQ,hn,h1,h2];rw[show Fo ns b s=.eG [.agg [.v (.slice none 0 0)],.v (.int .i64 10)] from by simp[Fo,Vy,hs,h1,h2]]
  exact dO rfl (by simp only[bT,ZZ,seval];rfl) (by simp only[bT,EV,seval]<;>rfl) (by simp only[EV,seval]<;>rfl) (by simp only[EV,seval]<;>rfl)
 have u0:0≤aO ns b.parent:=by omega
 have u1:aO ns b.parent<ns.length:=hu.2
 by_cases h3:b.slot≤(nd ns (aO ns b.parent)).block.slot
 ·simp only[ZZ,seval,B0,hs,mQ,hn,h1,h2,u0,u1,h3];rw[show Fo ns b s=.eG [.agg [.v (.slice none 0 0)],.v (.int .i64 14)] from by simp[Fo,Vy,hs,h1,h2,h3]]
  exact dO rfl (by simp only[bT,ZZ,seval];rfl) (by simp only[bT,EV,seval]<;>rfl) (by simp only[EV,seval]<;>rfl) (by simp only[EV,seval]<;>rfl)
 by_cases h4:4096≤(ns.length:Int)
 ·simp only[ZZ,seval,B0,hs,mQ,hn,h1,h2,u0,u1,h3,h4];rw[show Fo ns b s=.eG [.agg [.v (.slice none 0 0)],.v (.int .i64 11)] from by simp[Fo,Vy,hs,h1,h2,h3,h4]]
  exact dO rfl (by simp only[bT,ZZ,seval];rfl) (by simp only[bT,EV,seval]<;>rfl) (by simp only[EV,seval]<;>rfl) (by simp only[EV,seval]<;>rfl)
 ·simp only[ZZ,seval,B0,hs,mQ,hn,h1,h2,u0,u1,h3,h4];rw[show Fo ns b s=.eG [.agg (cT ⟨ns++[⟨b,aO ns b.parent,s⟩]⟩),.v (.int .i64 0)] from by simp[Fo,Vy,hs,h1,h2,h3,h4]]
  exact dO rfl (by simp only[bT,ZZ,seval];rfl) (by simp only[bT,EV,seval]<;>rfl) (by simp only[EV,seval]<;>rfl) (by simp only[EV,seval]<;>rfl)
theorem B4 (ns:List Node) (b:Block) (s:Int):Flat (Fo ns b s):=by
 unfold Fo;split
 ·exact .eG _ (bG (mZ _) (.v _))
 ·exact .eG _ (bG aBP (.v _))
theorem aJf (ns:List Node) (hn:(ns.length:Int)<1000000) (b:Block) (s:Int) (st:St) (d:Option Nat):aM (aC Tryz.prog) 149 [.agg (cT ⟨ns⟩),.agg (aT b),.v (.int .i64 s)] st d=some { dst:=d,val:=Fo ns b s }:=bI (nA (mZ _) (vC _) (.v _)) (aOk ns hn b s) (B4 ns b s)
theorem aOl (n:Int):aC Tryz.prog 188 [.v (.int .u64 n)]=some (.v (.bool (decide (1≤n) && decide (n≤64)))):=by
 rw[cL Tryz.func188 rfl aJg rfl];by_cases h:1≤n
 all_goals
  simp only[Z8,seval,h,decide_true,decide_false,Bool.true_and,Bool.false_and];exact bS rfl (by simp only[E8,seval,h,decide_true,decide_false,Bool.true_and,Bool.false_and]<;>rfl) (.v _)
theorem aJh (n:Int) (st:St) (d:Option Nat):aM (aC Tryz.prog) 188 [.v (.int .u64 n)] st d=some { dst:=d,val:=.v (.bool (decide (1≤n) && decide (n≤64)))}:=bI (cU (.v _)) (aOl n) (.v _)
noncomputable def B5 (a b:Int):Int × Int:=if b≠0∧IntKind.u64.wrap (Int.tdiv 18446744073709551615 b)<a then (0,4) else (IntKind.u64.wrap (a * b),0)
theorem aOm (a b:Int):aC Tryz.prog 189 [.v (.int .u64 a),.v (.int .u64 b)]=some (.eG [.v (.int .u64 (B5 a b).1),.v (.int .i64 (B5 a b).2)]):=by
 rw[cL Tryz.func189 rfl aJi rfl];unfold B5;by_cases h:b=0
 ·rw[if_neg (fun k=>k.1 h)]
  have hb:(b != 0)=false:=by simp[h]
  simp only[Z8,seval,hb];exact dO rfl rfl rfl (by simp only[E8,seval]<;>rfl) (by simp only[E8,seval]<;>rfl)
 ·have hb:(b != 0)=true:=by simp[h]
  have ZO:(b=0)=False:=eq_false h
  by_cases h2:IntKind.u64.wrap (Int.tdiv 18446744073709551615 b)<a
  ·rw[if_pos ⟨h,h2⟩];simp only[Z8,seval,hb,ZO,h2];exact dO rfl rfl rfl (by simp only[E8,seval]<;>rfl) (by simp only[E8,seval]<;>rfl)
  ·rw[if_neg (fun k=>h2 k.2)]
   simp only[Z8,seval,hb,ZO,h2];exact dO rfl rfl rfl (by simp only[E8,seval]<;>rfl) (by simp only[E8,seval]<;>rfl)
theorem aOn (a b:Int) (st:St) (d:Option Nat):aM (aC Tryz.prog) 189 [.v (.int .u64 a),.v (.int .u64 b)] st d=some { dst:=d,val:=.eG [.v (.int .u64 (B5 a b).1),.v (.int .i64 (B5 a b).2)]}:=bI (bG (.v _) (.v _)) (aOm a b) (.eG _ (bG (.v _) (.v _)))
noncomputable def ND (e p:Int):Int × Int:=if 1≤p∧p≤64 then B5 e p else (0,3)
theorem aOo (e p:Int):aC Tryz.prog 155 [.v (.int .u64 e),.v (.int .u64 p)]=some (.eG [.v (.int .u64 (ND e p).1),.v (.int .i64 (ND e p).2)]):=by
 rw[cL Tryz.func155 rfl aJj rfl];unfold ND;by_cases h:1≤p∧p≤64
 ·have h1:(decide (1≤p) && decide (p≤64))=true:=by simp[h]
  rw[if_pos h];simp only[Z8,seval,aJh,h1,aOn,dY];exact dO rfl rfl rfl (by simp only[E8,seval]<;>rfl) (by simp only[E8,seval]<;>rfl)
 ·have h1:(decide (1≤p) && decide (p≤64))=false:=by
   rw[Bool.eq_false_iff];intro k;simp at k;exact h k
  rw[if_neg h];simp only[Z8,seval,aJh,h1];exact dO rfl rfl rfl (by simp only[E8,seval]<;>rfl) (by simp only[E8,seval]<;>rfl)
theorem aOp (e p:Int) (st:St) (d:Option Nat):aM (aC Tryz.prog) 155 [.v (.int .u64 e),.v (.int .u64 p)] st d=some { dst:=d,val:=.eG [.v (.int .u64 (ND e p).1),.v (.int .i64 (ND e p).2)]}:=bI (bG (.v _) (.v _)) (aOo e p) (.eG _ (bG (.v _) (.v _)))
theorem aOq (n a b:Int):aC Tryz.prog 156 [.v (.int .i64 n),.v (.int .i64 a),.v (.int .i64 b)]=some (.v (.bool (decide (a≤n) && decide (n≤b)))):=by
 rw[cL Tryz.func156 rfl aJk rfl];by_cases h:a≤n
 all_goals
  simp only[Z8,seval,h,decide_true,decide_false,Bool.true_and,Bool.false_and];exact bS rfl (by simp only[E8,seval,h,decide_true,decide_false,Bool.true_and,Bool.false_and]<;>rfl) (.v _)
theorem aOr (n a b:Int) (st:St) (d:Option Nat):aM (aC Tryz.prog) 156 [.v (.int .i64 n),.v (.int .i64 a),.v (.int .i64 b)] st d=some { dst:=d,val:=.v (.bool (decide (a≤n) && decide (n≤b)))}:=bI (nA (.v _) (.v _) (.v _)) (aOq n a b) (.v _)
noncomputable def DH (a b:Int):Int × Int:=if IntKind.u64.wrap (18446744073709551615-b)<a then (0,4) else (IntKind.u64.wrap (a+b),0)
theorem aOs (a b:Int):aC Tryz.prog 196 [.v (.int .u64 a),.v (.int .u64 b)]=some (.eG [.v (.int .u64 (DH a b).1),.v (.int .i64 (DH a b).2)]):=by
 rw[cL Tryz.func196 rfl aJl rfl];unfold DH;by_cases h:IntKind.u64.wrap (18446744073709551615-b)<a
 ·rw[if_pos h];simp only[Z8,seval,h];exact dO rfl rfl rfl (by simp only[E8,seval]<;>rfl) (by simp only[E8,seval]<;>rfl)
 ·rw[if_neg h];simp only[Z8,seval,h];exact dO rfl rfl rfl (by simp only[E8,seval]<;>rfl) (by simp only[E8,seval]<;>rfl)
theorem aFq (a b:Int) (st:St) (d:Option Nat):aM (aC Tryz.prog) 196 [.v (.int .u64 a),.v (.int .u64 b)] st d=some { dst:=d,val:=.eG [.v (.int .u64 (DH a b).1),.v (.int .i64 (DH a b).2)]}:=bI (bG (.v _) (.v _)) (aOs a b) (.eG _ (bG (.v _) (.v _)))
theorem FV (l:List Int):∀c∈bE l,fR c:=by rw[NF];intro c hc;obtain⟨x,_,rfl⟩:=List.mem_map.1 hc;exact .v _
theorem yR {ns:List Node} (h:iA ns) {i:Int} (i0:0≤i) (i1:i<ns.length):i∈path ns i:=by
 by_cases hi:i=0
 ·subst hi;rw[rI (by omega)];simp
 ·rw[rK h (by omega) i1];simp
theorem Yf {ns:List Node} (h:iA ns):∀(k:Nat) (i:Int),i.toNat=k→0≤i→i<ns.length→∀x∈path ns i,0≤x∧x≤i:=by
 intro k;induction k using Nat.strongRecOn with
 | _ k ih =>
   intro i hk i0 i1 x hx;by_cases hi:i=0
   ·subst hi;rw[rI (by omega)] at hx;simp at hx;omega
   ·obtain⟨u0,u1⟩:=h i (by omega) i1
    rw[rK h (by omega) i1] at hx
    rcases List.mem_append.1 hx with hx|hx
    ·have:=ih (nd ns i).up.toNat (by omega) _ rfl u0 (by omega) x hx
     omega
    ·simp at hx;omega
theorem vO {ns:List Node} (h:iA ns) {i x:Int} (hx:x∈path ns i):0≤x∧x<ns.length:=by
 by_cases hi:0≤i∧i<ns.length
 ·have:=Yf h _ i rfl hi.1 hi.2 x hx;omega
 ·rw[yQ hi] at hx;simp at hx
def Fp (ns:List Node) (s:Int) (l:List Int):Int:=l.foldl (fun r x=>if (nd ns x).block.slot≤s then x else r) (-1)
def IE (ns:List Node) (i s:Int):Int:=Fp ns s (path ns i)
theorem Yg (ns:List Node) (s:Int) (l:List Int) (x:Int):Fp ns s (l++[x])=if (nd ns x).block.slot≤s then x else Fp ns s l:=by simp[Fp]
theorem NG {ns:List Node} {i:Int} (s:Int) (h:¬(0≤i∧i<ns.length)):IE ns i s=-1:=by unfold IE;rw[yQ h];rfl
theorem aBQ {l:List Int} {j:Int} (j0:0≤j) (j1:j<l.length):l.take (j+1).toNat=l.take j.toNat++[it l j]:=by
 obtain⟨h,e⟩:=xN j0 j1
 rw[e,show (j+1).toNat=j.toNat+1 by omega,List.take_succ_eq_append_getElem h]
theorem Fq {l:List Int} {j:Int} (j0:0≤j) (j1:j<l.length):it l j∈l:=by
 obtain⟨h,e⟩:=xN j0 j1
 rw[e];exact List.getElem_mem h
theorem aOt (ns:List Node) (hu:iA ns) (hn:(ns.length:Int)<1000000) (i s:Int):aC Tryz.prog 100 [.agg (cT ⟨ns⟩),.v (.int .i64 i),.v (.int .u64 s)]=some (.v (.int .i64 (IE ns i s))):=by
 rw[cL Tryz.func100 rfl aJm rfl];by_cases hv:0≤i∧i<ns.length
 ·have hl:((path ns i).length:Int)<1000000:=by have:=Bi hu i;omega
  have hp:=k76 ns hu hn i hv.1 hv.2
  have hrg:∀x∈path ns i,0≤x∧x<ns.length:=fun x=>vO hu
  unfold IE;generalize path ns i=p at hl hp hrg
  simp only[ZZ,seval,hp];refine lM (fun n st=>∃j:Int,st.env 2=.v (.int .u64 s)∧st.env 3=.ptr 3 0 0∧st.heap 3 0=some (.cells (cT ⟨ns⟩))∧st.env 8=.own 12 0∧st.heap 12 0=some (.row 3 1 p.length (aJ p))∧st.env 9=.v (.int .i64 j)∧st.env 7=.v (.int .i64 (Fp ns s (p.take j.toNat)))∧0≤j∧j≤p.length∧n=(p.length-j).toNat)
   (fun e st=>e=.exit 0∧st.env 7=.v (.int .i64 (Fp ns s p))) p.length ?step ?start ?rest
  case step =>
   rintro n st ⟨j,h2,h3,US,h8,hh8,h9,h7,j0,j1,Ju⟩
   by_cases aY:j<p.length
   ·have hw:IntKind.i64.wrap (j+1)=j+1:=Ia _ (by omega) (by omega)
    obtain⟨x0,x1⟩:=hrg _ (Fq j0 aY)
    have ht:=aBQ j0 aY
    by_cases hs:(nd ns (it p j)).block.slot≤s
    ·apply oN ((p.length-(j+1)).toNat)
     ·simp only[ZZ,seval,h2,h3,US,h8,hh8,h9,aY,j0,hw,x0,x1,hs];rfl
     ·exact⟨j+1,by simp only[EV,seval,h2],by simp only[EV,seval,h3],by simp only[EV,seval,US],by simp only[EV,seval,h8],by simp only[EV,seval,hh8],(by simp only[EV,seval]),by simp only[EV,seval,ht,Yg,hs],by omega,by omega,rfl⟩
    ·apply oN ((p.length-(j+1)).toNat)
     ·simp only[ZZ,seval,h2,h3,US,h8,hh8,h9,aY,j0,hw,x0,x1,hs];rfl
     ·exact⟨j+1,by simp only[EV,seval,h2],by simp only[EV,seval,h3],by simp only[EV,seval,US],by simp only[EV,seval,h8],by simp only[EV,seval,hh8],(by simp only[EV,seval]),by simp only[EV,seval,ht,Yg,hs,h7],by omega,by omega,rfl⟩
   ·have ht:p.take j.toNat=p:=List.take_of_length_le (by omega)
    apply oT (.exit 0)
    ·simp only[ZZ,seval,h2,h3,US,h8,hh8,h9,aY,j0];rfl
    ·exact⟨rfl,by rw[← ht];exact h7⟩
  case start=>exact⟨0,(by simp only[EV,seval]),(by simp only[EV,seval]),(by simp only[EV,seval]),(by simp only[EV,seval]),(by simp only[EV,seval]),(by simp only[EV,seval]),(by simp only[EV,seval];rfl),by omega,by omega,by omega⟩
  case rest =>
   rintro e st ⟨rfl,h⟩
   simp only[ZZ,seval,h];exact bS rfl (by simp only[EV,seval]) (.v _)
 ·rw[NG s hv];simp only[ZZ,seval,A9 ns i hv,Ib,Int.natCast_zero,Int.lt_irrefl,decide_false];exact bS rfl (by simp only[EV,seval]) (.v _)
theorem NH (ns:List Node) (hu:iA ns) (hn:(ns.length:Int)<1000000) (i s:Int) (st:St) (d:Option Nat):aM (aC Tryz.prog) 100 [.agg (cT ⟨ns⟩),.v (.int .i64 i),.v (.int .u64 s)] st d=some { dst:=d,val:=.v (.int .i64 (IE ns i s))}:=bI (nA (mZ _) (.v _) (.v _)) (aOt ns hu hn i s) (.v _)
theorem aFr {ns:List Node} (hu:iA ns) {a c:Int} (h1:c<ns.length) (h:a<c) (a0:0≤a):Bj ns a c=Bj ns a (nd ns c).up:=by
 unfold Bj;rw[decide_eq_decide,rK hu (by omega) h1]
 simp only[List.mem_append,List.mem_singleton];constructor
 ·rintro (hm|rfl)
  ·exact hm
  ·omega
 ·exact .inl
theorem B6 {ns:List Node} (hu:iA ns) {a c:Int} (h:¬((0≤a∧a<ns.length)∧(0≤c∧c<ns.length))):Bj ns a c=false:=by
 unfold Bj;rw[decide_eq_false_iff_not];intro hm;by_cases hc:0≤c∧c<ns.length
 ·exact h ⟨vO hu hm,hc⟩
 ·rw[yQ hc] at hm;simp at hm
theorem Yh {ns:List Node} (hu:iA ns) {a c:Int} (h:Bj ns a c=true):(0≤a∧a<ns.length)∧(0≤c∧c<ns.length):=by
 by_cases hv:(0≤a∧a<ns.length)∧(0≤c∧c<ns.length)
 ·exact hv
 ·rw[B6 hu hv] at h;cases h
theorem P0 {ns:List Node} (hu:iA ns) {a c:Int} (h:Bj ns a c=true):a≤c:=by
 have hr:=(Yh hu h).2
 unfold Bj at h;exact (Yf hu _ c rfl hr.1 hr.2 a (of_decide_eq_true h)).2
theorem aOu (a b:List Node) (hn:(a.length:Int)<1000000):aC Tryz.prog 106 [.agg (cT ⟨a⟩),.agg (cT ⟨b⟩)]=some (.v (.bool (decide (a=b)))):=by
 rw[cL Tryz.func106 rfl aJp rfl];by_cases hlen:a.length=b.length
 ·have hq:((a.length:Int) != (b.length:Int))=false:=by simp[hlen]
  simp only[ZZ,seval,hq];refine lM (fun n st=>∃i:Int,st.env 2=.ptr 2 0 0∧st.env 3=.ptr 3 0 0∧st.heap 2 0=some (.cells (cT ⟨a⟩))∧st.heap 3 0=some (.cells (cT ⟨b⟩))∧st.env 5=.v (.int .i64 i)∧0≤i∧i≤a.length∧n=(a.length-i).toNat∧∀j,0≤j→j<i→nd a j=nd b j)
   (fun e st=>(e=.ret∧st.env 4=.v (.bool (decide (a=b))))∨(e=.exit 0∧decide (a=b)=true)) a.length ?step ?start ?rest
  case step =>
   rintro n st ⟨i,h2,h3,uX,US,h5,i0,i1,Ju,hb⟩
   by_cases aY:i<a.length
   ·have hw:IntKind.i64.wrap (i+1)=i+1:=Ia _ (by omega) (by omega)
    have NI:i<b.length:=by omega
    by_cases hr:nd a i=nd b i
    ·have hbq:decide (nd a i=nd b i)=true:=by simp[hr]
     apply oN ((a.length-(i+1)).toNat)
     ·simp only[ZZ,seval,h2,h3,uX,US,h5,aY,NI,i0,hbq,hw];rfl
     ·exact⟨i+1,by simp only[EV,seval,h2],by simp only[EV,seval,h3],by simp only[EV,seval,uX],by simp only[EV,seval,US],(by simp only[EV,seval]),by omega,by omega,rfl,fun j j0 j1=>by
      rcases Int.lt_or_eq_of_le (show j≤i by omega) with h|rfl
      ·exact hb j j0 h
      ·exact hr⟩
    ·have hbq:decide (nd a i=nd b i)=false:=by simp[hr]
     have hd:decide (a=b)=false:=by rw[decide_eq_false_iff_not];intro h;exact hr (by rw[h])
     apply oT (.ret)
     ·simp only[ZZ,seval,h2,h3,uX,US,h5,aY,NI,i0,hbq];rfl
     ·exact .inl ⟨rfl,by simp only[EV,seval,hd]⟩
   ·apply oT (.exit 0)
    ·simp only[ZZ,seval,h2,h3,uX,US,h5,aY,i0];rfl
    ·exact .inr ⟨rfl,by
     rw[decide_eq_true_eq];apply List.ext_getElem hlen
     intro j h1 h2;have:=hb j (by omega) (by omega)
     simpa [nd,h1,h2] using this⟩
  case start=>exact⟨0,(by simp only[EV,seval]),(by simp only[EV,seval]),(by simp only[EV,seval]),(by simp only[EV,seval]),(by simp only[EV,seval]),by omega,by omega,by omega,fun j _ _=>by omega⟩
  case rest =>
   rintro e st (⟨rfl,h⟩|⟨rfl,h⟩)
   ·simp only[ZZ,seval];exact bS rfl h (.v _)
   ·simp only[ZZ,seval];exact bS rfl (by simp only[EV,seval,h]) (.v _)
 ·have hq:((a.length:Int) != (b.length:Int))=true:=by simp;omega
  have hd:decide (a=b)=false:=by rw[decide_eq_false_iff_not];intro h;exact hlen (by rw[h])
  simp only[ZZ,seval,hq];exact bS rfl (by simp only[EV,seval,hd]) (.v _)
theorem aOv (a b:List Node) (hn:(a.length:Int)<1000000) (st:St) (d:Option Nat):aM (aC Tryz.prog) 106 [.agg (cT ⟨a⟩),.agg (cT ⟨b⟩)] st d=some { dst:=d,val:=.v (.bool (decide (a=b)))}:=bI (bG (mZ _) (mZ _)) (aOu a b hn) (.v _)
def oS (ns:List Node) (i:Int):Nat→List Node × List Int
 | 0=>([],[])
 | k+1 =>
   let p:=oS ns i k
   if Bj ns i k=true then (p.1++[{ nd ns k with up:=if (k:Int)=i then -1 else it p.2 (nd ns k).up }],p.2++[(p.1.length:Int)]) else (p.1,p.2++[-1])
theorem Fs (ns:List Node) (i:Int):∀k,(oS ns i k).2.length=k
 | 0=>rfl
 | k+1=>by
   have:=Fs ns i k
   simp only[oS];split<;>simp[this]
theorem Sm (ns:List Node) (i:Int):∀k,(oS ns i k).1.length≤k
 | 0=>Nat.le_refl _
 | k+1=>by
   have:=Sm ns i k
   simp only[oS];split
   ·simp;exact this
   ·simp;omega
theorem mC {l m:List Int} {j:Int} (h0:0≤j) (h1:j<l.length):it (l++m) j=it l j:=by
 have:j.toNat<l.length:=by omega
 simp[it,List.getElem?_append_left this]
theorem Dh {l:List Int} {x:Int} {j:Int} (h:j=l.length):it (l++[x]) j=x:=by
 subst h;simp[it]
theorem Jx {l m:List Node} {j:Int} (h0:0≤j) (h1:j<l.length):nd (l++m) j=nd l j:=by
 have:j.toNat<l.length:=by omega
 simp[nd,List.getElem?_append_left this]
theorem FW {l:List Node} {x:Node} {j:Int} (h:j=l.length):nd (l++[x]) j=x:=by
 subst h;simp[nd]
theorem NJ {ns:List Node} (hu:iA ns) {i:Int} (i0:0≤i) (i1:i<ns.length):Bj ns i i=true:=by
 unfold Bj;rw[decide_eq_true_eq];by_cases h:i=0
 ·subst h;rw[rI (by omega)];simp
 ·rw[rK hu (by omega) i1];simp
theorem NK {ns:List Node} {a:Int} (h:0<ns.length):Bj ns a 0=decide (a=0):=by
 unfold Bj;rw[rI h];simp
theorem aFs (ns:List Node) (hu:iA ns) {i:Int} (i0:0≤i) (i1:i<ns.length):(oS ns i ns.length).1≠[]:=by
 have main:∀k:Nat,i<k→k≤ns.length→(oS ns i k).1≠[]:=by
  intro k;induction k with
  | zero=>intro h;omega
  | succ k ih =>
    intro h1 h2;by_cases hk:i<k
    ·have:=ih hk (by omega)
     simp only[oS];split
     ·simp
     ·exact this
    ·have hki:i=k:=by omega
     have:Bj ns i k=true:=by rw[← hki];exact NJ hu i0 i1
     simp[oS,this]
 exact main ns.length i1 (Nat.le_refl _)
def aJq (st:St) (s1 s2:Nat) (y:AV) (l:List Int):Prop :=
 (y=.v (.slice none 0 0)∧l=[])∨(∃g,y=.own s1 g∧g<st.aP s1∧st.heap s1 g=some (.row 3 1 l.length (aJ l)))∨(∃g,y=.own s2 g∧g<st.aP s2∧st.heap s2 g=some (.row 3 1 l.length (aJ l)))
def aJr (st:St) (s1:Nat) (x:AV) (l:List Node):Prop :=
 (x=.v (.slice none 0 0)∧l=[])∨(∃g,x=.own s1 g∧g<st.aP s1∧st.heap s1 g=some (.row 76 240 l.length (cB l)))
theorem c34 (ns:List Node) (hu:iA ns) (hn:(ns.length:Int)<1000000) (i:Int) (i0:0≤i) (i1:i<ns.length):aC Tryz.prog 34 [.agg (cT ⟨ns⟩),.v (.int .i64 i)] =
 some (.eG [.agg (cT ⟨(oS ns i ns.length).1⟩),.sl (oS ns i ns.length).2.length (aJ (oS ns i ns.length).2),.v (.int .i64 0)]):=by
 have hd:(decide (0≤i) && decide (i<ns.length))=true:=by simp[i0,i1]
 rw[cL Tryz.func34 rfl aOw rfl];simp only[ZZ,seval,UC,hd];refine lM (fun n st=>∃(k:Nat) (x y:AV),st.env 2=.ptr 2 0 0∧st.heap 2 0=some (.cells (cT ⟨ns⟩))∧st.env 4=.ptr 4 0 0∧st.heap 4 0=some (.cells [.v (.slice none 0 0)])∧st.env 7=.ptr 7 0 0∧st.heap 7 0=some (.cells [x]) ∧
  st.env 1=.v (.int .i64 i)∧st.env 9=.v (.int .i64 k)∧k≤ns.length∧n=ns.length-k∧st.env 8=y∧aJq st 30 51 y (oS ns i k).2∧aJr st 56 x (oS ns i k).1)
  (fun e st=>e=.exit 0∧∃(x y:AV),st.env 4=.ptr 4 0 0∧st.heap 4 0=some (.cells [.v (.slice none 0 0)])∧st.env 7=.ptr 7 0 0∧st.heap 7 0=some (.cells [x])∧st.env 8=y∧aJq st 30 51 y (oS ns i ns.length).2∧aJr st 56 x (oS ns i ns.length).1) ns.length ?step ?start ?rest
 case step =>
  rintro n st ⟨k,x,y,h2,uX,h4,Ft,h7,Hj,h1,h9,hk,Ju,h8,hy,hx⟩
  have hlen:=Fs ns i k
  have hlen2:=Sm ns i k
  have Si:((oS ns i k).2.length:Int)<1000000:=by omega
  have B7:((oS ns i k).1.length:Int)<1000000:=by omega
  by_cases aY:(k:Int)<ns.length
  ·have hw:IntKind.i64.wrap ((k:Int)+1)=((k+1:Nat):Int):=by rw[Ia _ (by omega) (by omega)];simp
   have k0:(0:Int)≤k:=by omega
   by_cases Pn:Bj ns i k=true
   ·have hs:oS ns i (k+1)=((oS ns i k).1++[{ nd ns k with up:=if (k:Int)=i then -1 else it (oS ns i k).2 (nd ns k).up }],(oS ns i k).2++[((oS ns i k).1.length:Int)]):=by simp only[oS,Pn,if_true]
    have upb:(k:Int)≠i→0≤(nd ns k).up∧(nd ns k).up<(oS ns i k).2.length:=fun gN=>by
     rcases Nat.eq_zero_or_pos k with h0|h0
     ·subst h0;rw[show ((0:Nat):Int)=0 from rfl,NK (by omega)] at Pn
      simp at Pn
      omega
     ·have:=hu k (by omega) aY
      rw[hlen];omega
    by_cases hki:(k:Int)=i
    ·have hq:((k:Int) == i)=true:=by simp[hki]
     rw[if_pos hki] at hs;rcases hy with ⟨rfl,hy⟩|⟨g,rfl,hg,hy⟩|⟨g,rfl,hg,hy⟩<;>rcases hx with ⟨rfl,hx⟩|⟨g',rfl,B8,hx⟩
     ·rw[hy,hx] at hs;apply oN ((ns.length-(k+1)))
      ·simp only[ZZ,seval,h2,uX,h4,Ft,h7,Hj,h1,h9,h8,aY,k0,Pj ns hu hn,Pn,hw,hq];rfl
      ·exact⟨k+1,_,_,(by simp only[EV,seval,h2]),(by simp only[EV,seval,uX]),(by simp only[EV,seval,h4]),(by simp only[EV,seval,Ft]),(by simp only[EV,seval,h7]),(by simp only[EV,seval];rfl),(by simp only[EV,seval,h1]),(by simp only[EV,seval]),by omega,by omega,(by simp only[EV,seval];rfl),(by rw[hs];(try simp only[List.nil_append]);exact .inr (.inr ⟨_,rfl,(by simp only[EV,seval]<;>omega),(by simp only[EV,seval]<;>rfl)⟩)),(by rw[hs];(try simp only[List.nil_append]);exact .inr ⟨_,rfl,(by simp only[EV,seval]<;>omega),(by simp only[EV,seval]<;>rfl)⟩)⟩
     ·rw[hy] at hs;apply oN ((ns.length-(k+1)))
      ·simp only[ZZ,seval,h2,uX,h4,Ft,h7,Hj,h1,h9,h8,aY,k0,Pj ns hu hn,Pn,hw,hq,hx,B7];rfl
      ·exact⟨k+1,_,_,(by simp only[EV,seval,h2]),(by simp only[EV,seval,uX]),(by simp only[EV,seval,h4]),(by simp only[EV,seval,Ft]),(by simp only[EV,seval,h7]),(by simp only[EV,seval];rfl),(by simp only[EV,seval,h1]),(by simp only[EV,seval]),by omega,by omega,(by simp only[EV,seval];rfl),(by rw[hs];(try simp only[List.nil_append]);exact .inr (.inr ⟨_,rfl,(by simp only[EV,seval]<;>omega),(by simp only[EV,seval]<;>rfl)⟩)),(by rw[hs];(try simp only[List.nil_append]);exact .inr ⟨_,rfl,(by simp only[EV,seval]<;>omega),(by simp only[EV,seval]<;>rfl)⟩)⟩
     ·rw[hx] at hs;apply oN ((ns.length-(k+1)))
      ·simp only[ZZ,seval,h2,uX,h4,Ft,h7,Hj,h1,h9,h8,aY,k0,Pj ns hu hn,Pn,hw,hq,hy,Si];rfl
      ·exact⟨k+1,_,_,(by simp only[EV,seval,h2]),(by simp only[EV,seval,uX]),(by simp only[EV,seval,h4]),(by simp only[EV,seval,Ft]),(by simp only[EV,seval,h7]),(by simp only[EV,seval];rfl),(by simp only[EV,seval,h1]),(by simp only[EV,seval]),by omega,by omega,(by simp only[EV,seval];rfl),(by rw[hs];(try simp only[List.nil_append]);exact .inr (.inr ⟨_,rfl,(by simp only[EV,seval]<;>omega),(by simp only[EV,seval]<;>rfl)⟩)),(by rw[hs];(try simp only[List.nil_append]);exact .inr ⟨_,rfl,(by simp only[EV,seval]<;>omega),(by simp only[EV,seval]<;>rfl)⟩)⟩
     ·apply oN ((ns.length-(k+1)))
      ·simp only[ZZ,seval,h2,uX,h4,Ft,h7,Hj,h1,h9,h8,aY,k0,Pj ns hu hn,Pn,hw,hq,hy,Si,hx,B7];rfl
      ·exact⟨k+1,_,_,(by simp only[EV,seval,h2]),(by simp only[EV,seval,uX]),(by simp only[EV,seval,h4]),(by simp only[EV,seval,Ft]),(by simp only[EV,seval,h7]),(by simp only[EV,seval];rfl),(by simp only[EV,seval,h1]),(by simp only[EV,seval]),by omega,by omega,(by simp only[EV,seval];rfl),(by rw[hs];(try simp only[List.nil_append]);exact .inr (.inr ⟨_,rfl,(by simp only[EV,seval]<;>omega),(by simp only[EV,seval]<;>rfl)⟩)),(by rw[hs];(try simp only[List.nil_append]);exact .inr ⟨_,rfl,(by simp only[EV,seval]<;>omega),(by simp only[EV,seval]<;>rfl)⟩)⟩
     ·rw[hx] at hs;apply oN ((ns.length-(k+1)))
      ·simp only[ZZ,seval,h2,uX,h4,Ft,h7,Hj,h1,h9,h8,aY,k0,Pj ns hu hn,Pn,hw,hq,hy,Si];rfl
      ·exact⟨k+1,_,_,(by simp only[EV,seval,h2]),(by simp only[EV,seval,uX]),(by simp only[EV,seval,h4]),(by simp only[EV,seval,Ft]),(by simp only[EV,seval,h7]),(by simp only[EV,seval];rfl),(by simp only[EV,seval,h1]),(by simp only[EV,seval]),by omega,by omega,(by simp only[EV,seval];rfl),(by rw[hs];(try simp only[List.nil_append]);exact .inr (.inr ⟨_,rfl,(by simp only[EV,seval]<;>omega),(by simp only[EV,seval]<;>rfl)⟩)),(by rw[hs];(try simp only[List.nil_append]);exact .inr ⟨_,rfl,(by simp only[EV,seval]<;>omega),(by simp only[EV,seval]<;>rfl)⟩)⟩
     ·apply oN ((ns.length-(k+1)))
      ·simp only[ZZ,seval,h2,uX,h4,Ft,h7,Hj,h1,h9,h8,aY,k0,Pj ns hu hn,Pn,hw,hq,hy,Si,hx,B7];rfl
      ·exact⟨k+1,_,_,(by simp only[EV,seval,h2]),(by simp only[EV,seval,uX]),(by simp only[EV,seval,h4]),(by simp only[EV,seval,Ft]),(by simp only[EV,seval,h7]),(by simp only[EV,seval];rfl),(by simp only[EV,seval,h1]),(by simp only[EV,seval]),by omega,by omega,(by simp only[EV,seval];rfl),(by rw[hs];(try simp only[List.nil_append]);exact .inr (.inr ⟨_,rfl,(by simp only[EV,seval]<;>omega),(by simp only[EV,seval]<;>rfl)⟩)),(by rw[hs];(try simp only[List.nil_append]);exact .inr ⟨_,rfl,(by simp only[EV,seval]<;>omega),(by simp only[EV,seval]<;>rfl)⟩)⟩
    ·have hq:((k:Int) == i)=false:=by simp[hki]
     obtain⟨u0,u1⟩:=upb hki
     rw[if_neg hki] at hs;rcases hy with ⟨rfl,hy⟩|⟨g,rfl,hg,hy⟩|⟨g,rfl,hg,hy⟩<;>rcases hx with ⟨rfl,hx⟩|⟨g',rfl,B8,hx⟩
     ·exfalso;rw[hy] at u1;simp at u1;omega
     ·exfalso;rw[hy] at u1;simp at u1;omega
     ·rw[hx] at hs;apply oN ((ns.length-(k+1)))
      ·simp only[ZZ,seval,h2,uX,h4,Ft,h7,Hj,h1,h9,h8,aY,k0,Pj ns hu hn,Pn,hw,hq,u0,u1,hy,Si];rfl
      ·exact⟨k+1,_,_,(by simp only[EV,seval,h2]),(by simp only[EV,seval,uX]),(by simp only[EV,seval,h4]),(by simp only[EV,seval,Ft]),(by simp only[EV,seval,h7]),(by simp only[EV,seval];rfl),(by simp only[EV,seval,h1]),(by simp only[EV,seval]),by omega,by omega,(by simp only[EV,seval];rfl),(by rw[hs];(try simp only[List.nil_append]);exact .inr (.inr ⟨_,rfl,(by simp only[EV,seval]<;>omega),(by simp only[EV,seval]<;>rfl)⟩)),(by rw[hs];(try simp only[List.nil_append]);exact .inr ⟨_,rfl,(by simp only[EV,seval]<;>omega),(by simp only[EV,seval]<;>rfl)⟩)⟩
     ·apply oN ((ns.length-(k+1)))
      ·simp only[ZZ,seval,h2,uX,h4,Ft,h7,Hj,h1,h9,h8,aY,k0,Pj ns hu hn,Pn,hw,hq,u0,u1,hy,Si,hx,B7];rfl
      ·exact⟨k+1,_,_,(by simp only[EV,seval,h2]),(by simp only[EV,seval,uX]),(by simp only[EV,seval,h4]),(by simp only[EV,seval,Ft]),(by simp only[EV,seval,h7]),(by simp only[EV,seval];rfl),(by simp only[EV,seval,h1]),(by simp only[EV,seval]),by omega,by omega,(by simp only[EV,seval];rfl),(by rw[hs];(try simp only[List.nil_append]);exact .inr (.inr ⟨_,rfl,(by simp only[EV,seval]<;>omega),(by simp only[EV,seval]<;>rfl)⟩)),(by rw[hs];(try simp only[List.nil_append]);exact .inr ⟨_,rfl,(by simp only[EV,seval]<;>omega),(by simp only[EV,seval]<;>rfl)⟩)⟩
     ·rw[hx] at hs;apply oN ((ns.length-(k+1)))
      ·simp only[ZZ,seval,h2,uX,h4,Ft,h7,Hj,h1,h9,h8,aY,k0,Pj ns hu hn,Pn,hw,hq,u0,u1,hy,Si];rfl
      ·exact⟨k+1,_,_,(by simp only[EV,seval,h2]),(by simp only[EV,seval,uX]),(by simp only[EV,seval,h4]),(by simp only[EV,seval,Ft]),(by simp only[EV,seval,h7]),(by simp only[EV,seval];rfl),(by simp only[EV,seval,h1]),(by simp only[EV,seval]),by omega,by omega,(by simp only[EV,seval];rfl),(by rw[hs];(try simp only[List.nil_append]);exact .inr (.inr ⟨_,rfl,(by simp only[EV,seval]<;>omega),(by simp only[EV,seval]<;>rfl)⟩)),(by rw[hs];(try simp only[List.nil_append]);exact .inr ⟨_,rfl,(by simp only[EV,seval]<;>omega),(by simp only[EV,seval]<;>rfl)⟩)⟩
     ·apply oN ((ns.length-(k+1)))
      ·simp only[ZZ,seval,h2,uX,h4,Ft,h7,Hj,h1,h9,h8,aY,k0,Pj ns hu hn,Pn,hw,hq,u0,u1,hy,Si,hx,B7];rfl
      ·exact⟨k+1,_,_,(by simp only[EV,seval,h2]),(by simp only[EV,seval,uX]),(by simp only[EV,seval,h4]),(by simp only[EV,seval,Ft]),(by simp only[EV,seval,h7]),(by simp only[EV,seval];rfl),(by simp only[EV,seval,h1]),(by simp only[EV,seval]),by omega,by omega,(by simp only[EV,seval];rfl),(by rw[hs];(try simp only[List.nil_append]);exact .inr (.inr ⟨_,rfl,(by simp only[EV,seval]<;>omega),(by simp only[EV,seval]<;>rfl)⟩)),(by rw[hs];(try simp only[List.nil_append]);exact .inr ⟨_,rfl,(by simp only[EV,seval]<;>omega),(by simp only[EV,seval]<;>rfl)⟩)⟩
   ·have Yi:Bj ns i k=false:=by simpa using Pn
    have hs:oS ns i (k+1)=((oS ns i k).1,(oS ns i k).2++[-1]):=by simp[oS,Yi]
    rcases hy with ⟨rfl,hy⟩|⟨g,rfl,hg,hy⟩|⟨g,rfl,hg,hy⟩<;>rcases hx with ⟨rfl,hx⟩|⟨g',rfl,B8,hx⟩
    ·rw[hy,hx] at hs;apply oN ((ns.length-(k+1)))
     ·simp only[ZZ,seval,h2,uX,h4,Ft,h7,Hj,h1,h9,h8,aY,k0,Pj ns hu hn,Yi,hw];rfl
     ·exact⟨k+1,_,_,(by simp only[EV,seval,h2]),(by simp only[EV,seval,uX]),(by simp only[EV,seval,h4]),(by simp only[EV,seval,Ft]),(by simp only[EV,seval,h7]),(by simp only[EV,seval,Hj];rfl),(by simp only[EV,seval,h1]),(by simp only[EV,seval]),by omega,by omega,(by simp only[EV,seval];rfl),(by rw[hs];(try simp only[List.nil_append]);exact .inr (.inl ⟨_,rfl,(by simp only[EV,seval]<;>omega),(by simp only[EV,seval]<;>rfl)⟩)),(by rw[hs];exact .inl ⟨rfl,rfl⟩)⟩
    ·rw[hy] at hs;apply oN ((ns.length-(k+1)))
     ·simp only[ZZ,seval,h2,uX,h4,Ft,h7,Hj,h1,h9,h8,aY,k0,Pj ns hu hn,Yi,hw,hx,B7];rfl
     ·exact⟨k+1,_,_,(by simp only[EV,seval,h2]),(by simp only[EV,seval,uX]),(by simp only[EV,seval,h4]),(by simp only[EV,seval,Ft]),(by simp only[EV,seval,h7]),(by simp only[EV,seval,Hj];rfl),(by simp only[EV,seval,h1]),(by simp only[EV,seval]),by omega,by omega,(by simp only[EV,seval];rfl),(by rw[hs];(try simp only[List.nil_append]);exact .inr (.inl ⟨_,rfl,(by simp only[EV,seval]<;>omega),(by simp only[EV,seval]<;>rfl)⟩)),(by rw[hs];exact .inr ⟨_,rfl,(by simp only[EV,seval]<;>omega),(by simp only[EV,seval,hx])⟩)⟩
    ·rw[hx] at hs;apply oN ((ns.length-(k+1)))
     ·simp only[ZZ,seval,h2,uX,h4,Ft,h7,Hj,h1,h9,h8,aY,k0,Pj ns hu hn,Yi,hw,hy,Si];rfl
     ·exact⟨k+1,_,_,(by simp only[EV,seval,h2]),(by simp only[EV,seval,uX]),(by simp only[EV,seval,h4]),(by simp only[EV,seval,Ft]),(by simp only[EV,seval,h7]),(by simp only[EV,seval,Hj];rfl),(by simp only[EV,seval,h1]),(by simp only[EV,seval]),by omega,by omega,(by simp only[EV,seval];rfl),(by rw[hs];(try simp only[List.nil_append]);exact .inr (.inl ⟨_,rfl,(by simp only[EV,seval]<;>omega),(by simp only[EV,seval]<;>rfl)⟩)),(by rw[hs];exact .inl ⟨rfl,rfl⟩)⟩
    ·apply oN ((ns.length-(k+1)))
     ·simp only[ZZ,seval,h2,uX,h4,Ft,h7,Hj,h1,h9,h8,aY,k0,Pj ns hu hn,Yi,hw,hy,Si,hx,B7];rfl
     ·exact⟨k+1,_,_,(by simp only[EV,seval,h2]),(by simp only[EV,seval,uX]),(by simp only[EV,seval,h4]),(by simp only[EV,seval,Ft]),(by simp only[EV,seval,h7]),(by simp only[EV,seval,Hj];rfl),(by simp only[EV,seval,h1]),(by simp only[EV,seval]),by omega,by omega,(by simp only[EV,seval];rfl),(by rw[hs];(try simp only[List.nil_append]);exact .inr (.inl ⟨_,rfl,(by simp only[EV,seval]<;>omega),(by simp only[EV,seval]<;>rfl)⟩)),(by rw[hs];exact .inr ⟨_,rfl,(by simp only[EV,seval]<;>omega),(by simp only[EV,seval,hx])⟩)⟩
    ·rw[hx] at hs;apply oN ((ns.length-(k+1)))
     ·simp only[ZZ,seval,h2,uX,h4,Ft,h7,Hj,h1,h9,h8,aY,k0,Pj ns hu hn,Yi,hw,hy,Si];rfl
     ·exact⟨k+1,_,_,(by simp only[EV,seval,h2]),(by simp only[EV,seval,uX]),(by simp only[EV,seval,h4]),(by simp only[EV,seval,Ft]),(by simp only[EV,seval,h7]),(by simp only[EV,seval,Hj];rfl),(by simp only[EV,seval,h1]),(by simp only[EV,seval]),by omega,by omega,(by simp only[EV,seval];rfl),(by rw[hs];(try simp only[List.nil_append]);exact .inr (.inl ⟨_,rfl,(by simp only[EV,seval]<;>omega),(by simp only[EV,seval]<;>rfl)⟩)),(by rw[hs];exact .inl ⟨rfl,rfl⟩)⟩
    ·apply oN ((ns.length-(k+1)))
     ·simp only[ZZ,seval,h2,uX,h4,Ft,h7,Hj,h1,h9,h8,aY,k0,Pj ns hu hn,Yi,hw,hy,Si,hx,B7];rfl
     ·exact⟨k+1,_,_,(by simp only[EV,seval,h2]),(by simp only[EV,seval,uX]),(by simp only[EV,seval,h4]),(by simp only[EV,seval,Ft]),(by simp only[EV,seval,h7]),(by simp only[EV,seval,Hj];rfl),(by simp only[EV,seval,h1]),(by simp only[EV,seval]),by omega,by omega,(by simp only[EV,seval];rfl),(by rw[hs];(try simp only[List.nil_append]);exact .inr (.inl ⟨_,rfl,(by simp only[EV,seval]<;>omega),(by simp only[EV,seval]<;>rfl)⟩)),(by rw[hs];exact .inr ⟨_,rfl,(by simp only[EV,seval]<;>omega),(by simp only[EV,seval,hx])⟩)⟩
  ·have Fg:k=ns.length:=by omega
   subst Fg;apply oT (.exit 0)
   ·simp only[ZZ,seval,h2,uX,h4,Ft,h7,Hj,h1,h9,h8,aY];rfl
   ·exact⟨rfl,x,y,(by simp only[EV,seval,h4]),(by simp only[EV,seval,Ft]),(by simp only[EV,seval,h7]),(by simp only[EV,seval,Hj]),(by simp only[EV,seval,h8]),hy,hx⟩
 case start=>exact⟨0,_,_,(by simp only[EV,seval]),(by simp only[EV,seval]),(by simp only[EV,seval]),(by simp only[EV,seval]),(by simp only[EV,seval]),(by simp only[EV,seval]<;>rfl),(by simp only[EV,seval]),(by simp only[EV,seval]<;>rfl),by omega,by omega,(by simp only[EV,seval]<;>rfl),.inl ⟨rfl,rfl⟩,.inl ⟨rfl,rfl⟩⟩
 case rest =>
  rintro e st ⟨rfl,x,y,h4,Ft,h7,Hj,h8,hy,hx⟩
  have hlen:=Fs ns i ns.length
  have gN:=aFs ns hu i0 i1
  rcases hy with ⟨rfl,hy⟩|⟨g,rfl,hg,hy⟩|⟨g,rfl,hg,hy⟩<;>rcases hx with ⟨rfl,hx⟩|⟨g',rfl,B8,hx⟩
  ·exact absurd hx gN
  ·rw[hy] at hlen;simp at hlen;omega
  ·exact absurd hx gN
  ·simp only[ZZ,seval,h4,Ft,h7,Hj,h8];exact gO rfl (by simp only[bT,ZZ,seval,h4,Ft,h7,Hj,h8];rfl) (by simp only[bT,EV,seval]<;>rfl) (by simp only[bT,EV,seval]<;>rfl) (by simp only[EV,seval,hx,Option.map_some]<;>rfl) (by simp only[EV,seval,hy]) (by simp only[EV,seval])
  ·exact absurd hx gN
  ·simp only[ZZ,seval,h4,Ft,h7,Hj,h8];exact gO rfl (by simp only[bT,ZZ,seval,h4,Ft,h7,Hj,h8];rfl) (by simp only[bT,EV,seval]<;>rfl) (by simp only[bT,EV,seval]<;>rfl) (by simp only[EV,seval,hx,Option.map_some]<;>rfl) (by simp only[EV,seval,hy]) (by simp only[EV,seval])
theorem B9 {P:Program} {b:Code} {st:St} {k:Ex × St→Option (Ex × St)} {R:Ex→St→Prop} (Inv:Nat→St→Prop) (Q:Ex→St→Prop) (n:Nat)
 (step:∀n st,Inv n st→∃e st',yS P b st=some (e,st')∧((e=.normal∧∃m,m<n∧Inv m st')∨(e≠.normal∧Q e st')))
 (start:Inv n st) (rest:∀e st',Q e st'→∃e' P1,k (e,st')=some (e',P1)∧R e' P1):∃e' P1,cH (yS P (.loop b) st) k=some (e',P1)∧R e' P1:=by
 obtain⟨e,s1,h1,h2,h3⟩:=Sn Inv Q step n st start
 rw[h1];exact rest e s1 h3
theorem P2 {x:Option (Ex × St)} {st':St} {n:Nat} {Inv:Nat→St→Prop} {Q:Ex→St→Prop} (h:x=some (.normal,st')) (m:Nat) (hm:m<n) (hi:Inv m st') :
 ∃e st',x=some (e,st')∧((e=.normal∧∃m,m<n∧Inv m st')∨(e≠.normal∧Q e st')):=⟨_,_,h,.inl ⟨rfl,m,hm,hi⟩⟩
theorem C0 {call:Nat→List AV→Option AV} {ops:Array Oper} {st:St} {T:Nat} {pos:String} {eH:Array Edge} (d:Nat) (x y:Operand) {a b:Int} (h1:st.ev x=.v (.int .i64 a)) (h2:st.ev y=.v (.int .i64 b)):cD Tryz.prog call ops ⟨some d,.buildSlice 22 2 #[(0,x),(1,y)],T,pos,eH,none⟩ st =
 some ((st.new d (.row 3 1 2 (aJ [a,b]))).put (some d) (.own d (st.aP d))):=by
 rw[kX];simp[Na,ze3,cH,h1,h2,AV.jQ,Value.oneCell',gR,AV.cells,List.range,List.range.loop,aJ,pX]
theorem Fu {call:Nat→List AV→Option AV} {ops:Array Oper} {st:St} {T:Nat} {pos:String} {eH:Array Edge} (d:Nat) (x y:Operand):cD Tryz.prog call ops ⟨some d,.buildSlice 22 2 #[(0,x),(1,y)],T,pos,eH,none⟩ st =
 Nb (st.ev x) (fun a=>Nb (st.ev y) (fun b=>some ((st.new d (.row 3 1 2 (aJ [a,b]))).put (some d) (.own d (st.aP d)))) (cD Tryz.prog call ops ⟨some d,.buildSlice 22 2 #[(0,x),(1,y)],T,pos,eH,none⟩ st))
  (cD Tryz.prog call ops ⟨some d,.buildSlice 22 2 #[(0,x),(1,y)],T,pos,eH,none⟩ st):=by
 unfold Nb;split
 ·rename_i a h1;try dsimp only
  split
  ·rename_i b h2;exact C0 d x y h1 h2
  ·rfl
 ·rfl
def Hk (ns:List Node) (i:Int):Nat→List Int
 | 0=>[]
 | k+1=>if Bj ns i k=true then Hk ns i k++[(k:Int)] else Hk ns i k
theorem Xc (ns:List Node) (i:Int):∀k,(Hk ns i k).length≤k
 | 0=>Nat.le_refl _
 | k+1=>by
   have:=Xc ns i k
   simp only[Hk];split
   ·simp;omega
   ·omega
theorem UU {ns:List Node} (hu:iA ns) {i:Int} (i0:0≤i) (i1:i<ns.length):∀k:Nat,i<k→Hk ns i k≠[]
 | 0,h=>by omega
 | k+1,h=>by
   simp only[Hk];by_cases hk:i=k
   ·rw[if_pos (by unfold Bj;rw[← hk];exact decide_eq_true (yR hu i0 i1))];simp
   ·have:=UU hu i0 i1 k (by omega)
    split
    ·simp
    ·exact this
theorem ZR (ns:List Node) (i x:Int):∀k:Nat,x∈Hk ns i k↔(0≤x∧x<k)∧Bj ns i x=true
 | 0=>by simp[Hk];intro h h';omega
 | k+1=>by
   have ih:=ZR ns i x k
   simp only[Hk];split
   ·rename_i h;rw[List.mem_append,ih,List.mem_singleton];constructor
    ·rintro (⟨h1,h2⟩|rfl)
     ·exact⟨by omega,h2⟩
     ·exact⟨by omega,h⟩
    ·rintro⟨h1,h2⟩
     by_cases hk:x=k
     ·exact .inr hk
     ·exact .inl ⟨by omega,h2⟩
   ·rename_i h;rw[ih];constructor
    ·rintro⟨h1,h2⟩;exact⟨by omega,h2⟩
    ·rintro⟨h1,h2⟩
     by_cases hk:x=k
     ·subst hk;exact absurd h2 h
     ·exact⟨by omega,h2⟩
def aBS (ns:List Node) (i:Int):AV:=.eG [.agg (cT ⟨(oS ns i ns.length).1⟩),.sl (oS ns i ns.length).2.length (aJ (oS ns i ns.length).2),.v (.int .i64 0)]
theorem C1 (ns:List Node) (i:Int):Flat (aBS ns i):=.eG _ (nA (mZ _) (Sl _) (.v _))
theorem k34 (ns:List Node) (hu:iA ns) (hn:(ns.length:Int)<1000000) (i:Int) (h:0≤i∧i<ns.length) (st:St) (d:Option Nat):aM (aC Tryz.prog) 34 [.agg (cT ⟨ns⟩),.v (.int .i64 i)] st d=some { dst:=d,val:=aBS ns i }:=bI (bG (mZ _) (.v _)) (c34 ns hu hn i h.1 h.2) (C1 ns i)
theorem UW {ns:List Node} (hu:iA ns) {i:Int}:∀k:Nat,k≤ns.length→∀a:Int,0≤a→a<k→Bj ns i a=true →
 0≤it (oS ns i k).2 a∧it (oS ns i k).2 a<(oS ns i k).1.length∧nd (oS ns i k).1 (it (oS ns i k).2 a)={ nd ns a with up:=if a=i then -1 else it (oS ns i k).2 (nd ns a).up }
 | 0,_,a,a0,a1,_=>by omega
 | k+1,hk,a,a0,a1,ha=>by
   have hl:=Fs ns i k
   have Yj:a≠i→0≤(nd ns a).up∧(nd ns a).up<a:=fun h=>by
    by_cases ha0:a=0
    ·subst ha0;rw[NK (by omega)] at ha;simp at ha;omega
    ·exact hu a (by omega) (by omega)
   by_cases hak:a<k
   ·obtain⟨h1,h2,h3⟩:=UW hu k (by omega) a a0 hak ha
    simp only[oS];split
    ·simp only
     rw[mC a0 (by omega),Jx h1 h2,h3]
     refine⟨h1,by simp;omega, ?_⟩
     by_cases FX:a=i
     ·rw[if_pos FX,if_pos FX]
     ·obtain⟨u0,u1⟩:=Yj FX
      rw[if_neg FX,if_neg FX,mC u0 (by omega)]
    ·simp only
     rw[mC a0 (by omega),h3]
     refine⟨h1,h2, ?_⟩
     by_cases FX:a=i
     ·rw[if_pos FX,if_pos FX]
     ·obtain⟨u0,u1⟩:=Yj FX
      rw[if_neg FX,if_neg FX,mC u0 (by omega)]
   ·have hak:a=k:=by omega
    subst hak;simp only[oS,ha,if_true];rw[Dh (by omega),FW rfl]
    refine⟨by omega,by simp<;>omega, ?_⟩
    by_cases FX:(k:Int)=i
    ·rw[if_pos FX,if_pos FX]
    ·obtain⟨u0,u1⟩:=Yj FX
     rw[if_neg FX,if_neg FX,mC u0 (by omega)]
theorem Nc (ns:List Node) (i:Int):∀(d k:Nat) (a:Int),0≤a→a<k→it (oS ns i (k+d)).2 a=it (oS ns i k).2 a
 | 0,k,a,_,_=>rfl
 | d+1,k,a,a0,a1=>by
   have ih:=Nc ns i d k a a0 a1
   have hl:=Fs ns i (k+d)
   rw[← ih,← Nat.add_assoc];simp only[oS];split
   ·simp only;rw[mC a0 (by omega)]
   ·simp only;rw[mC a0 (by omega)]
theorem aBT {ns:List Node} {i:Int} {n:Nat} {k:Nat} (hk:k<n) (ha:Bj ns i k=true):it (oS ns i n).2 k=(oS ns i k).1.length:=by
 obtain⟨d,rfl⟩:∃d,n=k+1+d:=⟨n-(k+1),by omega⟩
 rw[Nc ns i d (k+1) k (by omega) (by omega)]
 have hl:=Fs ns i k
 simp only[oS,ha,if_true];rw[Dh (by omega)]
theorem P3 {ns:List Node} (hu:iA ns) {i:Int} {n:Nat} (hn:n≤ns.length) {a b:Int} (a0:0≤a) (hab:a<b) (hb:b<n) (ha:Bj ns i a=true) (oC:Bj ns i b=true):it (oS ns i n).2 a<it (oS ns i n).2 b:=by
 obtain⟨k,rfl⟩:∃k:Nat,b=k:=⟨b.toNat,by omega⟩
 rw[aBT (by omega) oC]
 obtain⟨d,rfl⟩:∃d,n=k+d:=⟨n-k,by omega⟩
 rw[Nc ns i d k a a0 hab];exact (UW hu k (by omega) a a0 hab ha).2.1
theorem Po (ns:List Node) (i:Int):∀(k:Nat) (m:Int),0≤m→m<(oS ns i k).1.length→∃a:Int,0≤a∧a<k∧Bj ns i a=true∧it (oS ns i k).2 a=m
 | 0,m,m0,m1=>by simp[oS] at m1;omega
 | k+1,m,m0,m1=>by
   have hl:=Fs ns i k
   simp only[oS] at m1 ⊢;split at m1
   ·rename_i h;rw[if_pos h];simp only at m1 ⊢
    by_cases hm:m<(oS ns i k).1.length
    ·obtain⟨a,a0,a1,ha,he⟩:=Po ns i k m m0 hm
     exact⟨a,a0,by omega,ha,by rw[mC a0 (by omega)];exact he⟩
    ·simp at m1
     exact⟨k,by omega,by omega,h,by rw[Dh (by omega)];omega⟩
   ·rename_i h;rw[if_neg h];simp only at m1 ⊢
    obtain⟨a,a0,a1,ha,he⟩:=Po ns i k m m0 m1
    exact⟨a,a0,by omega,ha,by rw[mC a0 (by omega)];exact he⟩
end Go.Ab.Tryz
section
namespace Go.Ab.Tryz
open Classical Go.Proofs Go.Ab
variable {ns:List Node} {i:Int}
theorem NL (hu:iA ns) {a:Int} (ha:Bj ns i a=true):0≤it (oS ns i ns.length).2 a∧it (oS ns i ns.length).2 a<(oS ns i ns.length).1.length∧nd (oS ns i ns.length).1 (it (oS ns i ns.length).2 a)={ nd ns a with up:=if a=i then -1 else it (oS ns i ns.length).2 (nd ns a).up }:=by
 have h:=(Yh hu ha).2
 exact UW hu ns.length (Nat.le_refl _) a h.1 h.2 ha
theorem ZS (hu:iA ns) {a b:Int} (hab:a<b) (ha:Bj ns i a=true) (hb:Bj ns i b=true):it (oS ns i ns.length).2 a<it (oS ns i ns.length).2 b :=
 P3 hu (Nat.le_refl _) (Yh hu ha).2.1 hab (Yh hu hb).2.2 ha hb
theorem ZT (hu:iA ns) (hi:Bj ns i i=true):it (oS ns i ns.length).2 i=0:=by
 obtain⟨h1,h2,_⟩:=NL hu hi
 obtain⟨a,a0,a1,ha,he⟩:=Po ns i ns.length 0 (Int.le_refl 0) (by omega)
 have:=P0 hu ha
 by_cases h:i=a
 ·rw[h] at he ⊢;rw[← h] at he ⊢;exact he
 ·have:=ZS hu (show i<a by omega) hi ha
  omega
theorem aJs (hu:iA ns) {a:Int} (ha:Bj ns i a=true) (h:a≠i):0<a∧(0≤(nd ns a).up∧(nd ns a).up<a)∧Bj ns i (nd ns a).up=true:=by
 obtain⟨⟨i0,_⟩,a0,a1⟩:=Yh hu ha
 have:=P0 hu ha
 have hp:0<a:=by omega
 refine⟨hp,hu a hp a1, ?_⟩
 rw[← aFr hu a1 (by omega) i0];exact ha
theorem aBU (hu:iA ns) (hi:Bj ns i i=true):iA (oS ns i ns.length).1:=by
 intro m m0 m1;obtain⟨a,a0,a1,ha,rfl⟩:=Po ns i ns.length m (by omega) m1
 have FX:a≠i:=by rintro rfl;rw[ZT hu hi] at m0;omega
 obtain⟨_,⟨u0,u1⟩,Yj⟩:=aJs hu ha FX
 rw[(NL hu ha).2.2];simp only[if_neg FX];exact⟨(NL hu Yj).1,ZS hu u1 Yj ha⟩
end Go.Ab.Tryz
end
namespace Go.Ab.Tryz
open Classical Go.Proofs Go.Ab
structure Vld (ns:List Node):Prop where
 C2:0<ns.length
 aUX:ns.length≤4096
 NM:(nd ns 0).up=-1
 up:iA ns
 par:∀i:Int,0<i→i<ns.length→(nd ns i).block.parent=(nd ns (nd ns i).up).block.root
 slot:∀i:Int,0<i→i<ns.length→(nd ns (nd ns i).up).block.slot<(nd ns i).block.slot
 roots:∀i j:Int,0≤i→i<j→j<ns.length→(nd ns i).block.root≠(nd ns j).block.root
 st:∀i:Int,0≤i→i<ns.length→UR (nd ns i).status=true
end Go.Ab.Tryz
namespace Go.Ab.Tryz
open Classical Go.Proofs Go.Ab
end Go.Ab.Tryz
namespace Go.Ab.Tryz
open Classical Go.Proofs Go.Ab
noncomputable def Yk (st:St) (e:Option mV) (o:Nat):Option AV :=
 match e with
 | some (.cells cs)=>(cM (cs.map (xW st))).map fun ds=>.ip ds o
 | _=>none
theorem Jy (st:St) (f s g o:Nat):fG st (.Da f [.ptr s g o])=(Yk st (st.heap s g) o).map fun y=>.Da f [y]:=by
 have hn:¬Flat (.Da f [.ptr s g o]):=by intro h;cases h with|Da _ _ h=>exact Pp s g o (h _ (by simp))
 unfold fG Yk;rw[if_neg hn];simp only[List.map_cons,List.map_nil];unfold cF;rw[if_neg (Pp s g o)];simp only
 cases st.heap s g with
 | none=>rfl
 | some e=>cases e with
   | cells cs =>
     simp only
     cases cM (cs.map (xW st))<;>rfl
   | _=>rfl
theorem Nd (st:St) {cs:List AV} (h:∀c∈cs,Flat c) (o:Nat):Yk st (some (.cells cs)) o=some (.ip cs o):=by
 unfold Yk;simp only[Ux h,Option.map_some]
theorem UX (st:St) (r:cA) (o:Nat):Yk st (some (.cells (aV r))) o=some (.ip (aV r) o):=Nd st (dF r) o
theorem aOx (n:Node) (r:cA):aC Tryz.prog 151 [.agg (fF n),.ip (aV r) 0]=some (.v (.bool (decide (n.block.root=r)))):=by
 rw[cL Tryz.func151 rfl aJt rfl];simp only[ZZ,seval];exact bS rfl (by simp only[EV,seval]) (.v _)
theorem aBV (r:cA):Flat (.ip (aV r) 0):=.ip _ _ (dF r)
theorem aJu (n:Node) (r:cA) (st:St) (d:Option Nat):aM (aC Tryz.prog) 151 ([.agg (fF n)]++[.ip (aV r) 0]) st d=some { dst:=d,val:=.v (.bool (decide (n.block.root=r)))}:=bI (bG (.agg _ (Nf n)) (aBV r)) (aOx n r) (.v _)
theorem aOy (ns:List Node) (hn:(ns.length:Int)<1000000) (r:cA):aC Tryz.prog 150 [.sl ns.length (cB ns),.Da 151 [.ip (aV r) 0]]=some (.v (.int .i64 (aO ns r))):=by
 rw[cL Tryz.func150 rfl aJv rfl];simp only[ZZ,seval];refine lM (fun n st=>∃i:Int,(st.env 0=.sl ns.length (cB ns)∧st.env 1=.Da 151 [.ip (aV r) 0]∧st.env 7=.v (.int .i64 ns.length)∧st.env 8=.v (.int .i64 i))∧0≤i∧i≤ns.length∧n=(ns.length-i).toNat∧∀j,0≤j→j<i→(nd ns j).block.root≠r)
  (fun e st=>(e=.ret∧st.env 4=.v (.int .i64 (aO ns r)))∨(e=.exit 0∧aO ns r=-1)) ns.length ?step ?start ?rest
 case step =>
  rintro n st ⟨i,hI,i0,i1,Ju,hb⟩
  by_cases aY:i<ns.length
  ·have hw:IntKind.i64.wrap (i+1)=i+1:=Ia _ (by omega) (by omega)
   by_cases hr:(nd ns i).block.root=r
   ·have hd:decide ((nd ns i).block.root=r)=true:=decide_eq_true hr
    apply oT (.ret)
    ·simp only[ZZ,seval,hI,aY,i0,aJu,hd];rfl
    ·exact .inl ⟨rfl,by simp only[EV,seval,NC i0 aY hr hb]⟩
   ·have hd:decide ((nd ns i).block.root=r)=false:=decide_eq_false hr
    apply oN ((ns.length-(i+1)).toNat)
    ·simp only[ZZ,seval,hI,aY,i0,aJu,hd,hw];rfl
    ·exact⟨i+1,by simp only[EV,seval,hI],by omega,by omega,rfl,fun j j0 j1=>by
     rcases Int.lt_or_eq_of_le (show j≤i by omega) with h|rfl
     ·exact hb j j0 h
     ·exact hr⟩
  ·apply oT (.exit 0)
   ·simp only[ZZ,seval,hI,aY,i0];rfl
   ·exact .inr ⟨rfl,Yb fun j j0 j1=>hb j j0 (by omega)⟩
 case start=>exact⟨0,(by simp only[EV,seval]),by omega,by omega,by omega,fun j _ _=>by omega⟩
 case rest =>
  rintro e st (⟨rfl,h⟩|⟨rfl,h⟩)
  ·simp only[ZZ,seval];exact bS rfl h (.v _)
  ·simp only[ZZ,seval];exact bS rfl (by simp only[EV,seval,h]) (.v _)
theorem aOz (args:List AV) (st:St) (d:Option Nat):aM (aC Tryz.prog) 150 args st d=sN (aC Tryz.prog) 150 (cM (args.map (fG st))) (decide (∀x∈args,Flat x)) st d:=lN _ _ _ _ _
theorem aOA (ns:List Node) (hn:(ns.length:Int)<1000000) (r:cA) (fl:Bool) (st:St) (d:Option Nat):sN (aC Tryz.prog) 150 (some [.sl ns.length (cB ns),.Da 151 [.ip (aV r) 0]]) fl st d=some { dst:=d,val:=.v (.int .i64 (aO ns r))}:=Yl (aOy ns hn r)
theorem P4 (st:St) (n:Nat) (l:List Node):fG st (.sl n (cB l))=some (.sl n (cB l)):=dM (.sl _ _ (jZ l))
theorem c89 (ns:List Node) (r:cA) (hn:(ns.length:Int)<1000000):aC Tryz.prog 89 [.agg (cT ⟨ns⟩),.agg (aV r)]=some (.v (.int .i64 (aO ns r))):=by
 rw[cL Tryz.func89 rfl aOB rfl];simp only[ZZ,seval,aOz,Jy,UX,P4,aOA,hn];exact bS rfl (by simp only[EV,seval]) (.v _)
theorem k89 (ns:List Node) (r:cA) (hn:(ns.length:Int)<1000000) (st:St) (d:Option Nat):aM (aC Tryz.prog) 89 [.agg (cT ⟨ns⟩),.agg (aV r)] st d=some { dst:=d,val:=.v (.int .i64 (aO ns r))}:=bI (bG (mZ _) (qP _)) (c89 ns r hn) (.v _)
end Go.Ab.Tryz
namespace Go.Ab.Tryz
open Classical Go.Proofs Go.Ab
end Go.Ab.Tryz
namespace Go.Ab.Tryz
open Classical Go.Proofs Go.Ab
noncomputable def aFu (l:List Int):AV:=if l=[] then .v (.slice none 0 0) else .uniq 3 1 l.length (aJ l)
theorem Ym:aFu []=.v (.slice none 0 0):=if_pos rfl
theorem ZU {l:List Int} (h:l≠[]):aFu l=.uniq 3 1 l.length (aJ l):=if_neg h
def Uy (ns:List Node) (i:Int):Nat→List Int
 | 0=>[]
 | k+1=>if (nd ns k).up=i then Uy ns i k++[(k:Int)] else Uy ns i k
theorem Xd (ns:List Node) (i:Int):∀k,(Uy ns i k).length≤k
 | 0=>Nat.le_refl _
 | k+1=>by
   have:=Xd ns i k
   simp only[Uy];split
   ·simp;omega
   ·omega
theorem NN {ns:List Node} {i:Int}:∀k:Nat,(∀j:Int,0≤j→j<k→(nd ns j).up≠i)→Uy ns i k=[]
 | 0,_=>rfl
 | k+1,h=>by
   simp only[Uy];rw[if_neg (h k (by omega) (by omega))]
   exact NN k fun j j0 j1=>h j j0 (by omega)
theorem aJw {ns:List Node} (hu:iA ns) (hr:(nd ns 0).up=-1) {j:Int} (j0:0≤j) (j1:j<ns.length):(nd ns j).up<ns.length:=by
 by_cases h:j=0
 ·subst h;omega
 ·have:=hu j (by omega) j1;omega
def wW (ns:List Node) (i:Int):List Int:=if i<0 then [] else Uy ns i ns.length
theorem NO {ns:List Node} (hu:iA ns) (hr:(nd ns 0).up=-1) {i:Int} (h:¬(0≤i∧i<ns.length)):wW ns i=[]:=by
 unfold wW;split
 ·rfl
 ·exact NN _ fun j j0 j1=>by have:=aJw hu hr j0 j1;omega
theorem aJx (ns:List Node) (hu:iA ns) (hr:(nd ns 0).up=-1) (hn:(ns.length:Int)<1000000) (i:Int):aC Tryz.prog 245 [.agg (cT ⟨ns⟩),.v (.int .i64 i)]=some (aFu (wW ns i)):=by
 rw[cL Tryz.func245 rfl aJy rfl];by_cases hm:0≤i∧i<ns.length
 ·have hd:(decide (0≤i) && decide (i<ns.length))=true:=by simp[hm.1,hm.2]
  rw[show wW ns i=Uy ns i ns.length from if_neg (by omega)]
  simp only[ZZ,seval];refine lM (fun n st=>∃k:Nat,(st.env 1=.v (.int .i64 i)∧st.env 2=.ptr 2 0 0∧st.heap 2 0=some (.cells (cT ⟨ns⟩))∧st.env 6=.v (.int .i64 k)) ∧
   ((Uy ns i k=[]∧st.env 5=.v (.slice none 0 0))∨(Uy ns i k≠[]∧∃g,st.env 5=.own 30 g∧g<st.aP 30∧st.heap 30 g=some (.row 3 1 (Uy ns i k).length (aJ (Uy ns i k)))))∧k≤ns.length∧n=ns.length-k)
   (fun e st=>e=.exit 0∧((Uy ns i ns.length=[]∧st.env 5=.v (.slice none 0 0))∨(Uy ns i ns.length≠[]∧∃g,st.env 5=.own 30 g∧g<st.aP 30∧st.heap 30 g=some (.row 3 1 (Uy ns i ns.length).length (aJ (Uy ns i ns.length)))))) ns.length ?step ?start ?rest
  case step =>
   rintro n st ⟨k,hI,h5,hk,Ju⟩
   have hl:=Xd ns i k
   have Ht:((Uy ns i k).length:Int)<1000000:=by omega
   by_cases aY:(k:Int)<ns.length
   ·have hw:IntKind.i64.wrap ((k:Int)+1)=((k+1:Nat):Int):=by rw[Ia _ (by omega) (by omega)];omega
    have q0:(0:Int)≤k:=by omega
    by_cases hu:(nd ns k).up=i
    ·have hq:((nd ns k).up == i)=true:=by simp[hu]
     have hs:Uy ns i (k+1)=Uy ns i k++[(k:Int)]:=by simp only[Uy,hu,if_true]
     rcases h5 with ⟨hy,h5⟩|⟨hy,g,h5⟩
     ·rw[hy] at hs;apply oN (ns.length-(k+1))
      ·simp only[ZZ,seval,hI,h5,aY,hw,q0,hq,UC,hd];rfl
      ·exact⟨k+1,by simp only[EV,seval,hI],.inr ⟨by rw[hs];simp,_,by simp only[EV,seval]<;>rfl,(by simp only[EV,seval]<;>omega),(by rw[hs];simp only[EV,seval]<;>rfl)⟩,by omega,rfl⟩
     ·apply oN (ns.length-(k+1))
      ·simp only[ZZ,seval,hI,h5,Ht,aY,hw,q0,hq,UC,hd];rfl
      ·exact⟨k+1,by simp only[EV,seval,hI],.inr ⟨by rw[hs];simp,_,by simp only[EV,seval]<;>rfl,(by simp only[EV,seval]<;>omega),(by rw[hs];simp only[EV,seval]<;>rfl)⟩,by omega,rfl⟩
    ·have hq:((nd ns k).up == i)=false:=by simp[hu]
     have hs:Uy ns i (k+1)=Uy ns i k:=by simp only[Uy,hu,if_false]
     apply oN (ns.length-(k+1))
     ·simp only[ZZ,seval,hI,aY,hw,q0,hq,UC,hd];rfl
     ·exact⟨k+1,by simp only[EV,seval,hI],by rw[hs];simpa only[EV,seval] using h5,by omega,rfl⟩
   ·obtain rfl:k=ns.length:=by omega
    apply oT (.exit 0)
    ·simp only[ZZ,seval,hI,aY];rfl
    ·exact⟨rfl,by simpa only[EV,seval] using h5⟩
  case start=>exact⟨0,(by simp only[EV,seval]),.inl ⟨rfl,(by simp only[EV,seval])⟩,by omega,rfl⟩
  case rest =>
   rintro e st ⟨rfl,⟨hy,h5⟩|⟨hy,g,h5,hg,Ax⟩⟩
   ·rw[hy,Ym];simp only[ZZ,seval,h5];exact bS rfl (by simp only[EV,seval]) (.v _)
   ·rw[ZU hy];simp only[ZZ,seval,h5,Ax];exact tC rfl (by simp only[EV,seval];rfl) (by simp only[EV,seval,Ax]) (gD _)
 ·have hd:(decide (0≤i) && decide (i<ns.length))=false:=by
   rw[← Bool.not_eq_true];simpa using hm
  rw[NO hu hr hm,Ym];by_cases h0:(0:Int)<ns.length
  ·simp only[ZZ,seval,Ib,UC,hd,h0];exact bS rfl (by simp only[EV,seval]) (.v _)
  ·simp only[ZZ,seval,Ib,UC,hd,h0];exact bS rfl (by simp only[EV,seval]) (.v _)
theorem aJz (ns:List Node) (hu:iA ns) (hr:(nd ns 0).up=-1) (hn:(ns.length:Int)<1000000) (i:Int) (h:wW ns i≠[]) (st:St) (d:Nat):aM (aC Tryz.prog) 245 [.agg (cT ⟨ns⟩),.v (.int .i64 i)] st (some d)=some { dst:=some d,val:=.own d (st.aP d),new:=some (d,[.row 3 1 (wW ns i).length (aJ (wW ns i))])}:=by
 have hc:=aJx ns hu hr hn i
 rw[ZU h] at hc;exact jF (bG (mZ _) (.v _)) hc
theorem aEg (ns:List Node) (hu:iA ns) (hr:(nd ns 0).up=-1) (hn:(ns.length:Int)<1000000) (i:Int) (h:wW ns i=[]) (st:St) (d:Option Nat):aM (aC Tryz.prog) 245 [.agg (cT ⟨ns⟩),.v (.int .i64 i)] st d=some { dst:=d,val:=.v (.slice none 0 0)}:=by
 have hc:=aJx ns hu hr hn i
 rw[h,Ym] at hc;exact bI (bG (mZ _) (.v _)) hc (.v _)
end Go.Ab.Tryz
namespace Go.Ab.Tryz
open Classical Go.Proofs Go.Ab
end Go.Ab.Tryz
namespace Go.Ab.Tryz
open Classical Go.Proofs Go.Ab
theorem Pq [Ext] {P:Program} {f:Nat} {fn:Func} {st:St} {e:Ex} {r:ResultVar} {x y:AV} (hk:Ext.qM f=true) (he:e=.ret∨e=.normal) (hr:fn.results.toList=[r]) (h1:bT P st r=some x) (hn:(lO x).Nodup) (hy:De st x=some y):yG P f fn (e,st)=some y:=by
 have h:iY P f fn st=some y:=by
  unfold iY;rw[hk,if_pos rfl];unfold Pa;rw[hr];simp only[Bl,h1,cH,if_pos hn,hy]
 rcases he with rfl|rfl<;>exact h
theorem NP [Ext] {P:Program} {f:Nat} {fn:Func} {st:St} {e:Ex} {r1 r2:ResultVar} {x1 x2 y:AV} (hk:Ext.qM f=true) (he:e=.ret∨e=.normal) (hr:fn.results.toList=[r1,r2]) (h1:bT P st r1=some x1) (h2:bT P st r2=some x2)
 (hn:(lO (.eG [x1,x2])).Nodup) (hy:De st (.eG [x1,x2])=some y):yG P f fn (e,st)=some y:=by
 have h:iY P f fn st=some y:=by
  unfold iY;rw[hk,if_pos rfl];unfold Pa;rw[hr];simp only[List.map_cons,List.map_nil,Bl,h1,h2,cH,cM,Option.map_some,if_pos hn,hy]
 rcases he with rfl|rfl<;>exact h
theorem FY {st:St} {s g e sz n:Nat} {cs:List AV} (h:st.heap s g=some (.row e sz n cs)) (hf:∀c∈cs,Flat c):sE st (.agg [.own s g])=some (.agg [.uniq e sz n cs]):=by
 simp only[sE,List.map_cons,List.map_nil,kK,if_neg (nC s g),h,if_pos hf,cM,Option.map_some]
theorem C3 (st:St):sE st (.agg [.v (.slice none 0 0)])=some (.agg [.v (.slice none 0 0)]):=by
 simp only[sE,List.map_cons,List.map_nil,kK,if_pos (Flat.v _),cM,Option.map_some]
theorem ZV (st:St) (x:Value):sE st (.v x)=some (.v x):=by simp only[sE,kK,if_pos (Flat.v x)]
theorem FZ {st:St} {a b x y:AV} (h1:sE st a=some x) (h2:sE st b=some y):De st (.eG [a,b])=some (.eG [x,y]):=by
 simp only[De,List.map_cons,List.map_nil,h1,h2,cM,Option.map_some]
theorem C4 {st:St} {cs:List AV} {x:AV} (h1:sE st (.agg cs)=some x):De st (.agg cs)=some x:=h1
theorem Mc (e sz n:Nat) (cs:List AV):¬Flat (.uniq e sz n cs):=by intro h;cases h
theorem C5 {e sz n:Nat} {cs:List AV} {st:St} {d:Nat}:iU (.agg [.uniq e sz n cs]) st (some d)=some { dst:=some d,val:=.agg [.own d (st.aP d)],new:=some (d,[.row e sz n cs])}:=by
 have hn:¬Flat (.agg [.uniq e sz n cs]):=by intro h;cases h with|agg _ h=>exact Mc e sz n cs (h _ (by simp))
 unfold iU;rw[if_neg hn];rfl
theorem C6 {e sz n:Nat} {cs:List AV} {x:Value} {st:St} {d:Nat}:iU (.eG [.agg [.uniq e sz n cs],.v x]) st (some d)=some { dst:=some d,val:=.eG [.agg [.own d (st.aP d)],.v x],new:=some (d,[.row e sz n cs])}:=by
 have hn:¬Flat (.eG [.agg [.uniq e sz n cs],.v x]):=by
  intro h;cases h with
  | eG _ h =>
    have:=h (.agg [.uniq e sz n cs]) (by simp)
    cases this with
    | agg _ h=>exact Mc e sz n cs (h _ (by simp))
 unfold iU;rw[if_neg hn];rfl
theorem aBW {call:Nat→List AV→Option AV} {g:Nat} {args:List AV} {d e sz n:Nat} {cs:List AV} {st:St} (hf:∀x∈args,Flat x) (h:call g args=some (.agg [.uniq e sz n cs])):aM call g args st (some d)=some { dst:=some d,val:=.agg [.own d (st.aP d)],new:=some (d,[.row e sz n cs])}:=by
 unfold aM;rw[if_pos hf,h];exact C5
theorem aJA {call:Nat→List AV→Option AV} {g:Nat} {xs:List AV} {d e sz n:Nat} {cs:List AV} {x:Value} {fl:Bool} {st:St} (h:call g xs=some (.eG [.agg [.uniq e sz n cs],.v x])) (hm:∀c∈cs,fR c):sN call g (some xs) fl st (some d)=some { dst:=some d,val:=.eG [.agg [.own d (st.aP d)],.v x],new:=some (d,[.row e sz n cs])}:=by
 have UE:Xr (.eG [.agg [.uniq e sz n cs],.v x]):=by
  intro y hy;rcases List.mem_cons.1 hy with rfl|hy
  ·intro c hc;simp at hc
   subst hc;exact hm
  ·simp at hy
   subst hy;exact .v _
 unfold sN;simp only[cK,h,UE,or_true,if_true];exact C6
theorem aJB {call:Nat→List AV→Option AV} {g:Nat} {xs:List AV} {x y:Value} {fl:Bool} {st:St} {d:Option Nat} (h:call g xs=some (.eG [.agg [.v y],.v x])):sN call g (some xs) fl st d=some { dst:=d,val:=.eG [.agg [.v y],.v x]}:=by
 have hf:∀z∈[AV.agg [.v y],.v x],Flat z:=bG (.agg _ (cU (.v _))) (.v _)
 refine C7 h ?_ (.eG _ hf)
 intro z hz;rcases List.mem_cons.1 hz with rfl|hz
 ·intro c hc;simp at hc;subst hc;exact .v _
 ·simp at hz;subst hz;exact .v _
theorem ZW {z:Nat} {α:Type} (f:α→List AV) (hf:∀x,(f x).length=z):∀(l:List α) (i o:Nat) (hi:i<l.length),o<z→(l.flatMap f)[i * z+o]? = (f l[i])[o]?
 | [],i,o,hi,_=>by simp at hi
 | a :: l,0,o,_,ho=>by
   simp only[List.flatMap_cons,Nat.zero_mul,Nat.zero_add,List.getElem_cons_zero];rw[List.getElem?_append_left (by rw[hf];exact ho)]
 | a :: l,i+1,o,hi,ho=>by
   have ih:=ZW f hf l i o (by simpa using hi) ho
   simp only[List.flatMap_cons,List.getElem_cons_succ];rw[List.getElem?_append_right (by rw[hf,Nat.succ_mul];omega),hf,show (i+1) * z+o-z=i * z+o by rw[Nat.succ_mul];omega]
   exact ih
theorem ZX {z:Nat} {α:Type} (f:α→List AV) (hf:∀x,(f x).length=z) (o e:Nat) (xs:List AV) (hoe:o≤e) (he:e≤z):∀(l:List α) (i:Nat) (hi:i<l.length) (y:α),dJ (f l[i]) o xs e=f y→dJ (l.flatMap f) (i * z+o) xs (i * z+e)=(l.set i y).flatMap f
 | [],i,hi,_,_=>by simp at hi
 | a :: l,0,_,y,h=>by
   simp only[List.flatMap_cons,Nat.zero_mul,Nat.zero_add,List.set_cons_zero,List.getElem_cons_zero] at h ⊢;rw[← h];unfold dJ;rw[List.take_append_of_le_length (by rw[hf];omega),List.drop_append_of_le_length (by rw[hf];omega)]
   simp
 | a :: l,i+1,hi,y,h=>by
   have ih:=ZX f hf o e xs hoe he l i (by simpa using hi) y (by simpa using h)
   simp only[List.flatMap_cons,List.set_cons_succ];rw[← ih];unfold dJ;have h1:(i+1) * z+o=z+(i * z+o):=by rw[Nat.succ_mul];omega
   have h2:(i+1) * z+e=z+(i * z+e):=by rw[Nat.succ_mul];omega
   rw[h1,h2,List.take_append,List.drop_append,List.take_of_length_le (by rw[hf];omega),List.drop_of_length_le (by rw[hf];omega),hf,Nat.add_sub_cancel_left,Nat.add_sub_cancel_left]
   simp
theorem C8 {l:List Bool} {xs:List AV} (h:hU l xs xs):∀c∈xs,fR c:=by
 obtain⟨us,vs,rfl,_,_⟩:=Df _ _ _ h
 intro c hc;obtain⟨x,_,rfl⟩:=List.mem_map.1 hc
 exact .v _
theorem Yn (l:List Node):∀c∈cB l,fR c:=fun c hc=>by
 obtain⟨n,_,h⟩:=List.mem_flatMap.1 hc
 exact C8 (Yo n n) c h
theorem C9 {l:List Node} {i:Int} (h0:0≤i) (h1:i<l.length) (o:Nat) (ho:o<240):(cB l)[i.toNat * 240+o]? = (fF (nd l i))[o]?:=by
 obtain⟨h,e⟩:=Mz h0 h1
 rw[e];exact ZW fF vP l i.toNat o h ho
theorem D0 {l:List Node} {i:Int} (h0:0≤i) (h1:i<l.length) {o e:Nat} {xs:List AV} (hoe:o≤e) (he:e≤240) {y:Node} (h:dJ (fF (nd l i)) o xs e=fF y):dJ (cB l) (i.toNat * 240+o) xs (i.toNat * 240+e)=cB (l.set i.toNat y):=by
 obtain⟨hi,e'⟩:=Mz h0 h1
 rw[e'] at h;exact ZX fF vP o e xs hoe he l i.toNat hi y h
def Yp (n:Node) (s:Int):Node:={ n with status:=s }
def setAt (ns:List Node) (i s:Int):List Node:=ns.set i.toNat (Yp (nd ns i) s)
theorem UY {l:List Node} {i s:Int} (h0:0≤i) (h1:i<l.length):dJ (cB l) (i.toNat * 240+239) [.v (.int .i64 s)] (i.toNat * 240+240)=cB (setAt l i s) :=
 D0 h0 h1 (by decide) (by decide) (Ic (nd l i) _)
theorem UZ {l:List Node} {i:Int} (h0:0≤i) (h1:i<l.length):(cB l)[i.toNat * 240+239]? = some (.v (.int .i64 (nd l i).status)):=by
 rw[C9 h0 h1 239 (by decide)]
 exact Gv (nd l i)
theorem Di (ns:List Node) (i s:Int):(setAt ns i s).length=ns.length:=by simp[setAt]
def GA (to never:Int):List Int→List Node→Option (List Node)
 | [],ns=>some ns
 | i :: l,ns=>if (nd ns i).status=never then none else GA to never l (setAt ns i to)
theorem IF {to never:Int}:∀(l:List Int) (ns r:List Node),GA to never l ns=some r→r.length=ns.length
 | [],ns,r,h=>by simp only[GA,Option.some.injEq] at h;rw[h]
 | i :: l,ns,r,h=>by
   simp only[GA] at h;split at h
   ·cases h
   ·rw[IF l _ r h,Di]
theorem VA {l:List Node} (h:0<l.length):cB l≠[]:=by
 intro he;have:=congrArg List.length he
 rw[Ng] at this;simp only[List.length_nil] at this;omega
theorem aOE (l:List Node) (h0:0<l.length) (hn:(l.length:Int)<1000000):aC Tryz.prog 192 [.sl l.length (cB l)]=some (.uniq 76 240 l.length (cB l)):=by
 rw[cL Tryz.func192 rfl aJC rfl];have gN:=VA h0
 have ha:=fun s g=>Fv (e:=76) (sz:=240) (by_:=352) (s:=s) (g:=g) (n:=l.length) (cs:=cB l) (by simp) (by omega) (by unfold maxLen;omega)
 simp only[ZZ,seval,gN,ha];exact tC rfl (by simp only[EV,seval];rfl) (by simp only[EV,seval]) (jZ _)
theorem aOF (l:List Node) (h0:0<l.length) (hn:(l.length:Int)<1000000) (st:St) (d:Nat):aM (aC Tryz.prog) 192 [.sl l.length (cB l)] st (some d)=some { dst:=some d,val:=.own d (st.aP d),new:=some (d,[.row 76 240 l.length (cB l)])}:=jF (cU (.sl _ _ (jZ l))) (aOE l h0 hn)
theorem aOG (ns:List Node) (h0:0<ns.length) (hn:(ns.length:Int)<1000000):aC Tryz.prog 165 [.agg (cT ⟨ns⟩)]=some (.agg [.uniq 76 240 ns.length (cB ns)]):=by
 rw[cL Tryz.func165 rfl aJD rfl];have hK:=aOF ns h0 hn
 simp only[ZZ,seval,hK];refine Pq rfl (.inl rfl) rfl (x:=.agg [.own 5 0]) (by simp only[bT,ZZ,seval]) (by simp[lO,jD,gI]) (C4 (FY (by simp only[EV,seval]) (jZ _)))
theorem aOH (ns:List Node) (h0:0<ns.length) (hn:(ns.length:Int)<1000000) (st:St) (d:Nat):aM (aC Tryz.prog) 165 [.agg (cT ⟨ns⟩)] st (some d)=some { dst:=some d,val:=.agg [.own d (st.aP d)],new:=some (d,[.row 76 240 ns.length (cB ns)])}:=aBW (cU (mZ _)) (aOG ns h0 hn)
theorem aBX {l:List Int} {k:Nat} (h:k<l.length):l.drop k=it l k :: l.drop (k+1):=by
 rw[List.drop_eq_getElem_cons h];simp[it,h]
theorem aJE (s g:Nat) (x:Value):(lO (.eG [.agg [.own s g],.v x])).Nodup:=by simp[lO,jD,gI]
theorem aJF (y x:Value):(lO (.eG [.agg [.v y],.v x])).Nodup:=by simp[lO,jD,gI]
def DI (e:Int):AV:=.eG [.agg [.v (.slice none 0 0)],.v (.int .i64 e)]
def chS (o:Option (List Node)):AV :=
 match o with
 | none=>.eG [.agg [.v (.slice none 0 0)],.v (.bool false)]
 | some r=>.eG [.agg [.uniq 76 240 r.length (cB r)],.v (.bool true)]
theorem aJG (ns:List Node) (h0:0<ns.length) (hn:(ns.length:Int)<1000000) (l:List Int) (hl:(l.length:Int)<1000000) (hm:∀x∈l,0≤x∧x<ns.length) (to never:Int) :
 aC Tryz.prog 247 [.agg (cT ⟨ns⟩),.sl l.length (aJ l),.v (.int .i64 to),.v (.int .i64 never)]=some (chS (GA to never l ns)):=by
 rw[cL Tryz.func247 rfl aJH rfl];simp only[ZZ,seval,hn];refine lM (fun n st=>∃(k:Nat) (cur:List Node),(st.env 1=.sl l.length (aJ l)∧st.env 2=.v (.int .i64 to)∧st.env 3=.v (.int .i64 never)∧st.env 8=.ptr 8 0 0∧st.heap 8 0=some (.cells [.v (.slice none 0 0)])∧st.env 10=.ptr 10 0 0∧st.heap 10 0=some (.cells [.own 14 0])∧st.heap 14 0=some (.row 76 240 cur.length (cB cur))∧st.env 11=.v (.int .i64 k))∧cur.length=ns.length∧GA to never l ns=GA to never (l.drop k) cur∧k≤l.length∧n=l.length-k)
  (fun e st=>(e=.ret∧GA to never l ns=none∧st.env 8=.ptr 8 0 0∧st.heap 8 0=some (.cells [.v (.slice none 0 0)])∧st.env 9=.v (.bool false))∨(e=.exit 0∧∃r,GA to never l ns=some r∧st.env 8=.ptr 8 0 0∧st.heap 8 0=some (.cells [.v (.slice none 0 0)])∧st.env 10=.ptr 10 0 0∧st.heap 10 0=some (.cells [.own 14 0])∧st.heap 14 0=some (.row 76 240 r.length (cB r)))) l.length ?step ?start ?rest
 case step =>
  rintro n st ⟨k,cur,hI,Ay,hc,hk,Ju⟩
  by_cases aY:(k:Int)<l.length
  ·have q0:(0:Int)≤k:=by omega
   have hw:IntKind.i64.wrap ((k:Int)+1)=((k+1:Nat):Int):=by rw[Ia _ (by omega) (by omega)];omega
   obtain⟨x0,x1⟩:=hm _ (Fq q0 aY)
   have x2:it l k<cur.length:=by omega
   rw[aBX (by omega)] at hc
   simp only[GA] at hc;have hg:=UZ x0 x2
   by_cases hs:(nd cur (it l k)).status=never
   ·rw[if_pos hs] at hc;have hb:((nd cur (it l k)).status == never)=true:=by simp[hs]
    apply oT (.ret)
    ·simp only[ZZ,seval,hI,aY,q0,x0,x2,hg,hb];rfl
    ·exact .inl ⟨rfl,hc,by simp only[EV,seval,hI],by simp only[EV,seval,hI],by simp only[EV,seval,hI]⟩
   ·rw[if_neg hs] at hc;have hb:((nd cur (it l k)).status == never)=false:=by simp[hs]
    have hu:=UY (s:=to) x0 x2
    have hle:(it l k).toNat * 240+239+1≤cur.length * 240:=by
     have:((it l k).toNat+1) * 240≤cur.length * 240:=Nat.mul_le_mul_right _ (by omega)
     omega
    have hle2:(it l k).toNat * 240+240≤cur.length * 240:=by omega
    apply oN (l.length-(k+1))
    ·simp only[ZZ,seval,hI,aY,q0,x0,x2,hg,hb,hu,hle,hle2,hw];rfl
    ·exact⟨k+1,setAt cur (it l k) to,by simp only[EV,seval,hI,Di],by rw[Di];exact Ay,hc,by omega,rfl⟩
  ·obtain rfl:k=l.length:=by omega
   rw[List.drop_length] at hc;apply oT (.exit 0)
   ·simp only[ZZ,seval,hI,aY];rfl
   ·exact .inr ⟨rfl,cur,hc,by simp only[EV,seval,hI]⟩
 case start=>exact⟨0,ns,by simp only[EV,seval]<;>rfl,rfl,rfl,by omega,by omega⟩
 case rest =>
  rintro e st (⟨rfl,hc,hI⟩|⟨rfl,r,hc,hI⟩)
  ·rw[hc];simp only[ZZ,seval];exact NP rfl (.inl rfl) rfl (x1:=.agg [.v (.slice none 0 0)]) (x2:=.v (.bool false)) (by simp only[bT,ZZ,seval,hI]) (by simp only[bT,ZZ,seval,hI]) (aJF _ _) (FZ (C3 _) (ZV _ _))
  ·rw[hc];simp only[ZZ,seval,hI];exact NP rfl (.inl rfl) rfl (x1:=.agg [.own 14 0]) (x2:=.v (.bool true)) (by simp only[bT,ZZ,seval,hI]) (by simp only[bT,ZZ,seval,hI]) (aJE _ _ _) (FZ (FY (by simp only[EV,seval,hI]) (jZ _)) (ZV _ _))
theorem IG {ns:List Node} (hu:iA ns) {c:Int} (c0:0≤c) (c1:c<ns.length):0<(path ns c).length:=List.length_pos_iff.2 fun h=>by
 have:=yR hu c0 c1
 rw[h] at this;cases this
theorem D1 {ns:List Node} (hu:iA ns) {c:Int} (c0:0≤c) (c1:c<ns.length):it (path ns c) ((path ns c).length-1:Int)=c:=by
 by_cases h:c=0
 ·subst h;rw[rI (by omega)]
  rfl
 ·rw[rK hu (by omega) c1]
  exact Dh (by simp)
theorem c64 (ns:List Node) (hu:iA ns) (hn:(ns.length:Int)<1000000) (i:Int):aC Tryz.prog 64 [.agg (cT ⟨ns⟩),.v (.int .i64 i)]=some (if Hk ns i ns.length=[] then .v (.slice none 0 0) else .uniq 3 1 (Hk ns i ns.length).length (aJ (Hk ns i ns.length))):=by
 rw[cL Tryz.func64 rfl aOI rfl];have h41:=Pj ns hu hn
 simp only[ZZ,seval];refine lM (fun n st=>∃k:Nat,st.env 1=.v (.int .i64 i)∧st.env 2=.ptr 2 0 0∧st.heap 2 0=some (.cells (cT ⟨ns⟩))∧st.env 6=.v (.int .i64 k) ∧
  ((Hk ns i k=[]∧st.env 5=.v (.slice none 0 0))∨(Hk ns i k≠[]∧∃g,st.env 5=.own 21 g∧g<st.aP 21∧st.heap 21 g=some (.row 3 1 (Hk ns i k).length (aJ (Hk ns i k)))))∧k≤ns.length∧n=ns.length-k)
  (fun e st=>e=.exit 0∧((Hk ns i ns.length=[]∧st.env 5=.v (.slice none 0 0))∨(Hk ns i ns.length≠[]∧∃g,st.env 5=.own 21 g∧g<st.aP 21∧st.heap 21 g=some (.row 3 1 (Hk ns i ns.length).length (aJ (Hk ns i ns.length)))))) ns.length ?step ?start ?rest
 case step =>
  rintro n st ⟨k,h1,h2,uX,h6,h5,hk,Ju⟩
  have hdl:=Xc ns i k
  have hdl':((Hk ns i k).length:Int)<1000000:=by omega
  by_cases aY:(k:Int)<ns.length
  ·have hw:IntKind.i64.wrap ((k:Int)+1)=((k+1:Nat):Int):=by rw[Ia _ (by omega) (by omega)];omega
   cases ha:Bj ns i k
   ·have hs:Hk ns i (k+1)=Hk ns i k:=by simp only[Hk,ha,Bool.false_eq_true,if_false]
    rcases h5 with ⟨hy,h5⟩|⟨hy,g,h5,hg,Ax⟩
    ·apply oN (ns.length-(k+1))
     ·simp only[ZZ,seval,h1,h2,uX,h6,h5,aY,hw,h41,ha];rfl
     ·exact⟨k+1,by simp only[EV,seval,h1],by simp only[EV,seval,h2],by simp only[EV,seval,uX],(by simp only[EV,seval]),.inl ⟨by rw[hs];exact hy,by simp only[EV,seval,h5]⟩,by omega,rfl⟩
    ·apply oN (ns.length-(k+1))
     ·simp only[ZZ,seval,h1,h2,uX,h6,h5,Ax,aY,hw,h41,ha];rfl
     ·exact⟨k+1,by simp only[EV,seval,h1],by simp only[EV,seval,h2],by simp only[EV,seval,uX],(by simp only[EV,seval]),.inr ⟨by rw[hs];exact hy,g,by simp only[EV,seval,h5],(by simp only[EV,seval]<;>omega),(by rw[hs];simp only[EV,seval,Ax])⟩,by omega,rfl⟩
   ·have hs:Hk ns i (k+1)=Hk ns i k++[(k:Int)]:=by simp only[Hk,ha,if_true]
    rcases h5 with ⟨hy,h5⟩|⟨hy,g,h5,hg,Ax⟩
    ·rw[hy] at hs;apply oN (ns.length-(k+1))
     ·simp only[ZZ,seval,h1,h2,uX,h6,h5,aY,hw,h41,ha];rfl
     ·exact⟨k+1,by simp only[EV,seval,h1],by simp only[EV,seval,h2],by simp only[EV,seval,uX],(by simp only[EV,seval]),.inr ⟨by rw[hs];simp,_,by simp only[EV,seval]<;>rfl,(by simp only[EV,seval]<;>omega),(by rw[hs];simp only[EV,seval]<;>rfl)⟩,by omega,rfl⟩
    ·apply oN (ns.length-(k+1))
     ·simp only[ZZ,seval,h1,h2,uX,h6,h5,Ax,hdl',aY,hw,h41,ha];rfl
     ·exact⟨k+1,by simp only[EV,seval,h1],by simp only[EV,seval,h2],by simp only[EV,seval,uX],(by simp only[EV,seval]),.inr ⟨by rw[hs];simp,_,by simp only[EV,seval]<;>rfl,(by simp only[EV,seval]<;>omega),(by rw[hs];simp only[EV,seval]<;>rfl)⟩,by omega,rfl⟩
  ·obtain rfl:k=ns.length:=by omega
   apply oT (.exit 0)
   ·simp only[ZZ,seval,h2,uX,h6,aY];rfl
   ·exact⟨rfl,by simpa only[EV,seval] using h5⟩
 case start=>exact⟨0,(by simp only[EV,seval]),(by simp only[EV,seval]),(by simp only[EV,seval]),(by simp only[EV,seval]),.inl ⟨rfl,(by simp only[EV,seval])⟩,by omega,rfl⟩
 case rest =>
  rintro e st ⟨rfl,⟨hy,h5⟩|⟨hy,g,h5,hg,Ax⟩⟩
  ·rw[if_pos hy];simp only[ZZ,seval,h5];exact bS rfl (by simp only[EV,seval]) (.v _)
  ·rw[if_neg hy];simp only[ZZ,seval,h5,Ax];exact tC rfl (by simp only[EV,seval];rfl) (by simp only[EV,seval,Ax]) (gD _)
theorem k64 (ns:List Node) (hu:iA ns) (hn:(ns.length:Int)<1000000) (i:Int) (h:Hk ns i ns.length≠[]) (st:St) (d:Nat):aM (aC Tryz.prog) 64 [.agg (cT ⟨ns⟩),.v (.int .i64 i)] st (some d)=some { dst:=some d,val:=.own d (st.aP d),new:=some (d,[.row 3 1 (Hk ns i ns.length).length (aJ (Hk ns i ns.length))])}:=by
 have hc:=c64 ns hu hn i
 rw[if_neg h] at hc;exact jF (bG (mZ _) (.v _)) hc
end Go.Ab.Tryz
namespace Go.Ab.Tryz
open Classical Go.Proofs Go.Ab
end Go.Ab.Tryz
namespace Go.Ab.Tryz
open Classical Go.Proofs Go.Ab
theorem aBY (args:List AV) (st:St) (d:Option Nat):aM (aC Tryz.prog) 247 args st d=sN (aC Tryz.prog) 247 (cM (args.map (fG st))) (decide (∀x∈args,Flat x)) st d:=lN _ _ _ _ _
theorem D2:Flat (.agg [.v (.slice none 0 0)]):=.agg _ (cU (.v _))
theorem vQ (e:Int):Flat (DI e):=.eG _ (bG D2 (.v _))
def stA (o:Option (List Node)):AV :=
 match o with
 | none=>DI 21
 | some r=>.eG [.agg (cT ⟨r⟩),.v (.int .i64 0)]
theorem NQ (o:Option (List Node)):Flat (stA o):=by
 cases o with
 | none=>exact vQ _
 | some r=>exact .eG _ (bG (mZ _) (.v _))
noncomputable def raO (ns:List Node) (i:Int):Option (List Node):=GA 1 2 (path ns i) ns
noncomputable def coO (ns:List Node) (i:Int):Option (List Node):=GA 2 1 (Hk ns i ns.length) ns
noncomputable def N3 (ns:List Node) (i:Int):AV:=if 0≤i∧i<ns.length then stA (raO ns i) else DI 10
noncomputable def N4 (ns:List Node) (i:Int):AV:=if 0≤i∧i<ns.length then stA (coO ns i) else DI 10
theorem Xe {ns:List Node} (hu:iA ns) {i:Int}:∀x∈path ns i,0≤x∧x<ns.length:=fun x hx=>vO hu hx
theorem ZY (ns:List Node) (i:Int):∀x∈Hk ns i ns.length,0≤x∧x<ns.length:=fun x hx=>((ZR ns i x _).1 hx).1
theorem aOL (ns:List Node) (hu:iA ns) (hn:(ns.length:Int)<1000000) (i:Int):aC Tryz.prog 236 [.agg (cT ⟨ns⟩),.v (.int .i64 i)]=some (N3 ns i):=by
 rw[cL Tryz.func236 rfl aJI rfl];unfold N3;by_cases hm:0≤i∧i<ns.length
 ·rw[if_pos hm];have hd:(decide (0≤i) && decide (i<ns.length))=true:=by simp[hm.1,hm.2]
  have h45:=k76 ns hu hn i hm.1 hm.2
  have hpl:=Bi hu i
  have hc:=aJG ns (by omega) hn (path ns i) (by omega) (Xe hu) 1 2
  unfold raO;cases ho:GA 1 2 (path ns i) ns with
  | none =>
    rw[ho] at hc;have hK:=fun (fl:Bool) (st:St) (d:Option Nat)=>aJB (fl:=fl) (st:=st) (d:=d) hc
    simp only[ZZ,seval,UC,hd,h45,aBY,hK,dY];exact dO rfl (by simp only[bT,ZZ,seval];rfl) (by simp only[bT,EV,seval]<;>rfl) (by simp only[EV,seval]<;>rfl) (by simp only[EV,seval]<;>rfl)
  | some r =>
    rw[ho] at hc;have hK:=fun (fl:Bool) (st:St) (d:Nat)=>aJA (fl:=fl) (st:=st) (d:=d) hc (Yn r)
    simp only[ZZ,seval,UC,hd,h45,aBY,hK,dY];exact dO rfl (by simp only[bT,ZZ,seval];rfl) (by simp only[bT,EV,seval]<;>rfl) (by simp only[EV,seval]<;>rfl) (by simp only[EV,seval]<;>rfl)
 ·rw[if_neg hm];have hd:(decide (0≤i) && decide (i<ns.length))=false:=by rw[← Bool.not_eq_true];simpa using hm
  simp only[ZZ,seval,UC,hd];exact dO rfl (by simp only[bT,ZZ,seval];rfl) (by simp only[bT,EV,seval]<;>rfl) (by simp only[EV,seval]<;>rfl) (by simp only[EV,seval]<;>rfl)
theorem aOM (ns:List Node) (hu:iA ns) (hn:(ns.length:Int)<1000000) (i:Int):aC Tryz.prog 238 [.agg (cT ⟨ns⟩),.v (.int .i64 i)]=some (N4 ns i):=by
 rw[cL Tryz.func238 rfl aJJ rfl];unfold N4;by_cases hm:0≤i∧i<ns.length
 ·rw[if_pos hm];have hd:(decide (0≤i) && decide (i<ns.length))=true:=by simp[hm.1,hm.2]
  have h36:=k64 ns hu hn i (UU hu hm.1 hm.2 _ hm.2)
  have hdl:=Xc ns i ns.length
  have hc:=aJG ns (by omega) hn (Hk ns i ns.length) (by omega) (ZY ns i) 2 1
  unfold coO;cases ho:GA 2 1 (Hk ns i ns.length) ns with
  | none =>
    rw[ho] at hc;have hK:=fun (fl:Bool) (st:St) (d:Option Nat)=>aJB (fl:=fl) (st:=st) (d:=d) hc
    simp only[ZZ,seval,UC,hd,h36,aBY,hK,dY];exact dO rfl (by simp only[bT,ZZ,seval];rfl) (by simp only[bT,EV,seval]<;>rfl) (by simp only[EV,seval]<;>rfl) (by simp only[EV,seval]<;>rfl)
  | some r =>
    rw[ho] at hc;have hK:=fun (fl:Bool) (st:St) (d:Nat)=>aJA (fl:=fl) (st:=st) (d:=d) hc (Yn r)
    simp only[ZZ,seval,UC,hd,h36,aBY,hK,dY];exact dO rfl (by simp only[bT,ZZ,seval];rfl) (by simp only[bT,EV,seval]<;>rfl) (by simp only[EV,seval]<;>rfl) (by simp only[EV,seval]<;>rfl)
 ·rw[if_neg hm];have hd:(decide (0≤i) && decide (i<ns.length))=false:=by rw[← Bool.not_eq_true];simpa using hm
  simp only[ZZ,seval,UC,hd];exact dO rfl (by simp only[bT,ZZ,seval];rfl) (by simp only[bT,EV,seval]<;>rfl) (by simp only[EV,seval]<;>rfl) (by simp only[EV,seval]<;>rfl)
theorem NR (ns:List Node) (i:Int):Flat (N3 ns i):=by unfold N3;split;exact NQ _;exact vQ _
theorem Yq (ns:List Node) (i:Int):Flat (N4 ns i):=by unfold N4;split;exact NQ _;exact vQ _
theorem aJK (ns:List Node) (hu:iA ns) (hn:(ns.length:Int)<1000000) (i:Int) (st:St) (d:Option Nat):aM (aC Tryz.prog) 236 [.agg (cT ⟨ns⟩),.v (.int .i64 i)] st d=some { dst:=d,val:=N3 ns i }:=bI (bG (mZ _) (.v _)) (aOL ns hu hn i) (NR ns i)
theorem aJL (ns:List Node) (hu:iA ns) (hn:(ns.length:Int)<1000000) (i:Int) (st:St) (d:Option Nat):aM (aC Tryz.prog) 238 [.agg (cT ⟨ns⟩),.v (.int .i64 i)] st d=some { dst:=d,val:=N4 ns i }:=bI (bG (mZ _) (.v _)) (aOM ns hu hn i) (Yq ns i)
end Go.Ab.Tryz
namespace Go.Ab.Tryz
open Classical Go.Proofs Go.Ab
end Go.Ab.Tryz
namespace Go.Ab.Tryz
open Classical Go.Proofs Go.Ab
theorem D3 (ns:List Node) (hn:(ns.length:Int)<1000000) (i:Int):(∃e,N3 ns i=.eG [.agg [.v (.slice none 0 0)],.v (.int .i64 e)])∨∃r:List Node,N3 ns i=.eG [.agg (cT ⟨r⟩),.v (.int .i64 0)]∧(r.length:Int)<1000000:=by
 unfold N3;split
 ·cases h:raO ns i with
  | none=>exact .inl ⟨21,rfl⟩
  | some r=>exact .inr ⟨r,rfl,by rw[IF _ _ _ h];exact hn⟩
 ·exact .inl ⟨10,rfl⟩
theorem GB (ns:List Node) (hn:(ns.length:Int)<1000000) (i:Int):(∃e,N4 ns i=.eG [.agg [.v (.slice none 0 0)],.v (.int .i64 e)])∨∃r:List Node,N4 ns i=.eG [.agg (cT ⟨r⟩),.v (.int .i64 0)]∧(r.length:Int)<1000000:=by
 unfold N4;split
 ·cases h:coO ns i with
  | none=>exact .inl ⟨21,rfl⟩
  | some r=>exact .inr ⟨r,rfl,by rw[IF _ _ _ h];exact hn⟩
 ·exact .inl ⟨10,rfl⟩
def pay (ns:List Node) (x:Int):cA:=(nd ns x).block.iO
noncomputable def zL (ns:List Node) (p:List Int):Nat→Option Nat
 | 0=>none
 | n+1=>if pay ns (it p ((p.length-(n+1):Nat):Int))=dE then zL ns p n else some (p.length-(n+1))
noncomputable def Ie (ns:List Node) (p:List Int) (h:cA):Nat→Option Nat
 | 0=>none
 | n+1=>if pay ns (it p (n:Int))=h then some n else Ie ns p h n
noncomputable def pA (ns:List Node) (i:Int) (h:cA):Int × Int :=
 if path ns i=[] then (-1,-1)
 else if h=dE then
  match zL ns (path ns i) (path ns i).length with
  | none=>(-1,i)
  | some k=>(if k=0 then -1 else it (path ns i) ((k:Int)-1),it (path ns i) k)
 else
  match Ie ns (path ns i) h ((path ns i).length-1) with
  | none=>(-1,i)
  | some k=>(it (path ns i) k,it (path ns i) ((k:Int)+1))
noncomputable def reA (ns:List Node) (i:Int) (h:cA):AV:=.eG [.v (.int .i64 (pA ns i h).1),.v (.int .i64 (pA ns i h).2)]
theorem GC {ns:List Node} {p:List Int}:∀(n k:Nat),n≤p.length→zL ns p n=some k→k<p.length
 | 0,k,_,h=>by simp[zL] at h
 | n+1,k,hn,h=>by
   simp only[zL] at h;split at h
   ·exact GC n k (by omega) h
   ·simp at h;omega
theorem NS {ns:List Node} {p:List Int} {h:cA}:∀(n k:Nat),Ie ns p h n=some k→k<n
 | 0,k,hk=>by simp[Ie] at hk
 | n+1,k,hk=>by
   simp only[Ie] at hk;split at hk
   ·simp at hk;omega
   ·have:=NS n k hk;omega
theorem VB {ns:List Node} {i:Int} {h:cA} (hp:path ns i=[]):pA ns i h=(-1,-1):=if_pos hp
theorem aFw {ns:List Node} {i j:Int} (i0:0≤i) (i1:i<ns.length) (j0:0≤j) (y:Node):nd (ns.set i.toNat y) j=if j=i then y else nd ns j:=by
 unfold nd;rw[List.getD_eq_getElem?_getD,List.getD_eq_getElem?_getD];by_cases h:j=i
 ·subst h;have:j.toNat<ns.length:=by omega
  simp[this]
 ·rw[if_neg h,List.getElem?_set_ne (by omega)]
theorem NT {to never:Int} (gN:to≠never):∀(l:List Int) (ns r:List Node),(∀x∈l,0≤x∧x<ns.length)→GA to never l ns=some r →
 (∀x∈l,(nd ns x).status≠never)∧r.length=ns.length∧∀j:Int,0≤j→j<ns.length→nd r j=if j∈l then Yp (nd ns j) to else nd ns j
 | [],ns,r,_,h=>by
   simp only[GA,Option.some.injEq] at h;subst h;exact⟨by simp,rfl,by simp⟩
 | i :: l,ns,r,hl,h=>by
   simp only[GA] at h;split at h
   ·cases h
   ·rename_i hs;obtain⟨i0,i1⟩:=hl i (by simp)
    obtain⟨h1,h2,h3⟩:=NT gN l (setAt ns i to) r (fun x hx=>by rw[Di];exact hl x (by simp[hx])) h
    rw[Di] at h2 h3;have hnd:∀j:Int,0≤j→nd (setAt ns i to) j=if j=i then Yp (nd ns i) to else nd ns j:=fun j j0=>aFw i0 i1 j0 _
    refine⟨fun x hx=>?_,h2,fun j j0 j1=>?_⟩
    ·rcases List.mem_cons.1 hx with rfl|hx
     ·exact hs
     ·by_cases hxi:x=i
      ·subst hxi;exact hs
      ·have:=h1 x hx
       rw[hnd x (hl x (by simp[hx])).1,if_neg hxi] at this
       exact this
    ·rw[h3 j j0 j1,hnd j j0];by_cases hji:j=i
     ·subst hji;simp only[if_true,List.mem_cons,true_or];split<;>rfl
     ·simp[hji]
structure VC (a b:List Node):Prop where
 len:a.length=b.length
 up:∀j:Int,0≤j→j<a.length→(nd a j).up=(nd b j).up
theorem VC.aOP {a b:List Node} (h:VC a b) (hu:iA a):iA b:=fun i i0 i1=>by rw[← h.up i (by omega) (by rw[h.len];exact i1)];exact hu i i0 (by rw[h.len];exact i1)
structure Chd (ns r:List Node) (l:List Int) (to:Int):Prop where
 len:r.length=ns.length
 at_:∀j:Int,0≤j→j<ns.length→nd r j=if j∈l then Yp (nd ns j) to else nd ns j
theorem Chd.su {ns r:List Node} {l:List Int} {to:Int} (h:Chd ns r l to):VC ns r where
 len:=h.len.symm
 up:=fun j j0 j1=>by rw[h.at_ j j0 j1];split<;>rfl
theorem Chd.block {ns r:List Node} {l:List Int} {to:Int} (h:Chd ns r l to) {j:Int} (j0:0≤j) (j1:j<ns.length):(nd r j).block=(nd ns j).block:=by
 rw[h.at_ j j0 j1];split<;>rfl
theorem Chd.upE {ns r:List Node} {l:List Int} {to:Int} (h:Chd ns r l to) {j:Int} (j0:0≤j) (j1:j<ns.length):(nd r j).up=(nd ns j).up:=by
 rw[h.at_ j j0 j1];split<;>rfl
theorem Chd.st {ns r:List Node} {l:List Int} {to:Int} (h:Chd ns r l to) {j:Int} (j0:0≤j) (j1:j<ns.length):(nd r j).status=if j∈l then to else (nd ns j).status:=by
 rw[h.at_ j j0 j1];split<;>rfl
structure aFx (ns r:List Node) (i:Int):Prop where
 c:Chd ns r (path ns i) 1
 ok:∀x∈path ns i,(nd ns x).status≠2
theorem D4 {ns r:List Node} (hu:iA ns) {i:Int} (h:raO ns i=some r):aFx ns r i:=by
 obtain⟨h1,h2,h3⟩:=NT (by decide) _ _ _ (Xe hu) h
 exact⟨⟨h2,h3⟩,h1⟩
structure aIy (ns r:List Node) (i:Int):Prop where
 c:Chd ns r (Hk ns i ns.length) 2
 ok:∀x∈Hk ns i ns.length,(nd ns x).status≠1
end Go.Ab.Tryz
