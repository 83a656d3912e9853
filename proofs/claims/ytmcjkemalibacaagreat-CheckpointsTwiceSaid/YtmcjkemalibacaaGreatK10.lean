/-
  Part 10 of the proof: an evaluator of programs, its soundness, and what functions of this program compute.
-/
import Derived.Test.YtmcjkemalibacaaGreatK9
set_option linter.all false
set_option maxRecDepth 20000
set_option maxHeartbeats 40000000
namespace Go.Ab.Tryz
open Classical Go.Proofs Go.Ab
theorem Hi (x:Int) (h1:-9223372036854775808≤x) (h2:x≤9223372036854775807):IntKind.i64.wrap x=x:=wrap_i64 x h1 h2
theorem c87 (ns:List Node) (i:Int):aB Tryz.prog 87 [.agg (cO ⟨ns⟩),.v (.int .i64 i)]=some (.v (.bool (decide (0≤i) && decide (i<ns.length)))):=by
 rw[cL Tryz.func87 rfl aPf rfl];by_cases h:0≤i
 all_goals
  simp only[ZZ,seval,h,decide_true,decide_false,Bool.false_eq_true,Bool.true_and,Bool.false_and];exact bZ rfl (by simp only[EV,seval]) (.v _)
theorem US (ns:List Node) (i:Int) (st:St) (d:Option Nat):aO (aB Tryz.prog) 87 [.agg (cO ⟨ns⟩),.v (.int .i64 i)] st d=some { dst:=d,val:=.v (.bool (decide (0≤i) && decide (i<ns.length)))}:=bG (bF (mD _) (.v _)) (c87 ns i) (.v _)
def VJ (n:Int):Bool:=decide (0≤n) && decide (n≤2)
theorem aPg (i:Int):aB Tryz.prog 186 [.v (.int .i64 i)]=some (.v (.bool (VJ i))):=by
 rw[cL Tryz.func186 rfl aJT rfl];by_cases h:0≤i
 all_goals
  simp only[ZZ,seval,h,decide_true,decide_false,Bool.false_eq_true,Bool.true_and,Bool.false_and];exact bZ rfl (by simp only[EV,seval,VJ,h,decide_true,decide_false,Bool.false_and,Bool.true_and]) (.v _)
noncomputable def aN (ns:List Node) (r:cN):Int:=match ns.findIdx? (fun n=>decide (n.block.root=r)) with
 | some k=>(k:Int)
 | none=>-1
theorem NP {ns:List Node} {r:cN} {i:Int} (h0:0≤i) (h1:i<ns.length) (hr:(nd ns i).block.root=r) (hb:∀j,0≤j→j<i→(nd ns j).block.root≠r):aN ns r=i:=by
 obtain⟨hi,e⟩:=Nc h0 h1
 have:ns.findIdx? (fun n=>decide (n.block.root=r))=some i.toNat:=by
  rw[List.findIdx?_eq_some_iff_getElem];refine⟨hi,by simp[← e,hr],fun j hj=>?_⟩
  have h:=hb j (by omega) (by omega)
  have hj':j<ns.length:=by omega
  simp[nd,hj'] at h
  simpa using h
 unfold aN;rw[this];simp;omega
theorem Yt {ns:List Node} {r:cN} (hb:∀j,0≤j→j<(ns.length:Int)→(nd ns j).block.root≠r):aN ns r=-1:=by
 have:ns.findIdx? (fun n=>decide (n.block.root=r))=none:=by
  rw[List.findIdx?_eq_none_iff];intro n hn;obtain⟨j,hj,rfl⟩:=List.getElem_of_mem hn
  have h:=hb j (by omega) (by omega)
  simp[nd,hj] at h
  simpa using h
 unfold aN;rw[this]
theorem c46 (ns:List Node) (r:cN) (hn:(ns.length:Int)<1000000):aB Tryz.prog 46 [.agg (cO ⟨ns⟩),.agg (bD r)]=some (.v (.int .i64 (aN ns r))):=by
 rw[cL Tryz.func46 rfl aPh rfl];simp only[ZZ,seval];refine kJ (fun n st=>∃i:Int,st.env 2=.ptr 2 0 0∧st.env 3=.ptr 3 0 0∧st.heap 2 0=some (.cells (cO ⟨ns⟩))∧st.heap 3 0=some (.cells (bD r))∧st.env 5=.v (.int .i64 i)∧0≤i∧i≤ns.length∧n=(ns.length-i).toNat ∧
  ∀j,0≤j→j<i→(nd ns j).block.root≠r)
  (fun e st=>(e=.ret∧st.env 4=.v (.int .i64 (aN ns r)))∨(e=.exit 0∧aN ns r=-1)) ns.length ?step ?start ?rest
 case step =>
  rintro n st ⟨i,h2,h3,uZ,IT,h5,i0,i1,Hu,hb⟩
  by_cases bA:i<ns.length
  ·have hw:IntKind.i64.wrap (i+1)=i+1:=Hi _ (by omega) (by omega)
   by_cases hr:(nd ns i).block.root=r
   ·apply oT (.ret)
    ·simp only[ZZ,seval,h2,h3,uZ,IT,h5,bA,i0,hr];rfl
    ·exact .inl ⟨rfl,by simp only[EV,seval,NP i0 bA hr hb]⟩
   ·apply oN ((ns.length-(i+1)).toNat)
    ·simp only[ZZ,seval,h2,h3,uZ,IT,h5,bA,i0,hr,hw];rfl
    ·exact⟨i+1,by simp only[EV,seval,h2],by simp only[EV,seval,h3],by simp only[EV,seval,uZ],by simp only[EV,seval,IT],(by simp only[EV,seval]),by omega,by omega,rfl,fun j j0 j1=>by
     rcases Int.lt_or_eq_of_le (show j≤i by omega) with h|rfl
     ·exact hb j j0 h
     ·exact hr⟩
  ·apply oT (.exit 0)
   ·simp only[ZZ,seval,h2,h3,uZ,IT,h5,bA,i0];rfl
   ·exact .inr ⟨rfl,Yt fun j j0 j1=>hb j j0 (by omega)⟩
 case start=>exact⟨0,(by simp only[EV,seval]),(by simp only[EV,seval]),(by simp only[EV,seval]),(by simp only[EV,seval]),(by simp only[EV,seval]),by omega,by omega,by omega,fun j _ _=>by omega⟩
 case rest =>
  rintro e st (⟨rfl,h⟩|⟨rfl,h⟩)
  ·simp only[ZZ,seval];exact bZ rfl h (.v _)
  ·simp only[ZZ,seval];exact bZ rfl (by simp only[EV,seval,h]) (.v _)
theorem q49 (args:List AV) (st:St) (d:Option Nat):aO (aB Tryz.prog) 49 args st d=uF (aB Tryz.prog) 49 (cM (args.map (fP st))) (decide (∀x∈args,Flat x)) st d:=jV _ _ _ _ _
theorem c49 (l:List Int) (a:Int) (hn:(l.length:Int)<1000000):aB Tryz.prog 49 [.sl l.length (aK l),.v (.int .i64 a)]=some (.v (.bool (decide (a∈l)))):=by
 rw[cL Tryz.func49 rfl aJU rfl];simp only[ZZ,seval];refine kJ (fun n st=>∃i:Int,st.env 0=.sl l.length (aK l)∧st.env 1=.v (.int .i64 a)∧st.env 5=.v (.int .i64 i)∧0≤i∧i≤l.length∧n=(l.length-i).toNat∧∀j,0≤j→j<i→it l j≠a)
  (fun e st=>(e=.ret∧st.env 4=.v (.bool (decide (a∈l))))∨(e=.exit 0∧decide (a∈l)=false)) l.length ?step ?start ?rest
 case step =>
  rintro n st ⟨i,h0,h1,h5,i0,i1,Hu,hb⟩
  by_cases bA:i<l.length
  ·have hw:IntKind.i64.wrap (i+1)=i+1:=Hi _ (by omega) (by omega)
   obtain⟨hi,he⟩:=yA i0 bA
   by_cases hr:it l i=a
   ·have hm:decide (a∈l)=true:=by rw[decide_eq_true_eq,← hr,he];exact List.getElem_mem hi
    have hbq:(it l i == a)=true:=by simp[hr]
    apply oT (.ret)
    ·simp only[ZZ,seval,h0,h1,h5,bA,i0,hbq];rfl
    ·exact .inl ⟨rfl,by simp only[EV,seval,hm]⟩
   ·have hbq:(it l i == a)=false:=by simp[hr]
    apply oN ((l.length-(i+1)).toNat)
    ·simp only[ZZ,seval,h0,h1,h5,bA,i0,hbq,hw];rfl
    ·exact⟨i+1,by simp only[EV,seval,h0],by simp only[EV,seval,h1],(by simp only[EV,seval]),by omega,by omega,rfl,fun j j0 j1=>by
     rcases Int.lt_or_eq_of_le (show j≤i by omega) with h|rfl
     ·exact hb j j0 h
     ·exact hr⟩
  ·apply oT (.exit 0)
   ·simp only[ZZ,seval,h0,h1,h5,bA,i0];rfl
   ·exact .inr ⟨rfl,by
    rw[decide_eq_false_iff_not];intro hm;obtain⟨j,hj,rfl⟩:=List.getElem_of_mem hm
    exact hb j (by omega) (by omega) (by simp[it,hj])⟩
 case start=>exact⟨0,(by simp only[EV,seval]),(by simp only[EV,seval]),(by simp only[EV,seval]),by omega,by omega,by omega,fun j _ _=>by omega⟩
 case rest =>
  rintro e st (⟨rfl,h⟩|⟨rfl,h⟩)
  ·simp only[ZZ,seval];exact bZ rfl h (.v _)
  ·simp only[ZZ,seval];exact bZ rfl (by simp only[EV,seval,h]) (.v _)
theorem aJV (a:Int):aB Tryz.prog 49 [.v (.slice none 0 0),.v (.int .i64 a)]=some (.v (.bool false)):=by
 rw[cL Tryz.func49 rfl aJU rfl];simp only[ZZ,seval,Ic,Int.natCast_zero,Int.lt_irrefl,decide_false];exact bZ rfl (by simp only[EV,seval]) (.v _)
theorem k49 (l:List Int) (a:Int) (hn:(l.length:Int)<1000000) (fl:Bool) (st:St) (d:Option Nat):uF (aB Tryz.prog) 49 (some [.sl l.length (aK l),.v (.int .i64 a)]) fl st d=some { dst:=d,val:=.v (.bool (decide (a∈l)))}:=Sv (c49 l a hn)
theorem aPi (a:Int) (fl:Bool) (st:St) (d:Option Nat):uF (aB Tryz.prog) 49 (some [.v (.slice none 0 0),.v (.int .i64 a)]) fl st d=some { dst:=d,val:=.v (.bool false)}:=Sv (aJV a)
def gK (ns:List Node):Prop:=∀i:Int,0<i→i<ns.length→0≤(nd ns i).up∧(nd ns i).up<i
def Yu (ns:List Node):Nat→Int→List Int
 | 0,_=>[]
 | f+1,i=>if i=0 then [0] else Yu ns f (nd ns i).up++[i]
def path (ns:List Node) (i:Int):List Int:=if 0≤i∧i<ns.length then Yu ns (i.toNat+1) i else []
theorem Yv {ns:List Node} (h:gK ns):∀(f g:Nat) (i:Int),0≤i→i<ns.length→i.toNat<f→i.toNat<g→Yu ns f i=Yu ns g i
 | 0,_,i,_,_,h1,_=>by omega
 | f+1,0,i,_,_,_,h2=>by omega
 | f+1,g+1,i,i0,i1,h1,h2=>by
   simp only[Yu];by_cases hi:i=0
   ·rw[if_pos hi,if_pos hi]
   ·obtain⟨u0,u1⟩:=h i (by omega) i1
    rw[if_neg hi,if_neg hi,Yv h f g (nd ns i).up u0 (by omega) (by omega) (by omega)]
theorem rH {ns:List Node} (h:0<ns.length):path ns 0=[0]:=by
 unfold path;rw[if_pos ⟨by omega,by omega⟩]
 rfl
theorem pW {ns:List Node} (h:gK ns) {i:Int} (i0:0<i) (i1:i<ns.length):path ns i=path ns (nd ns i).up++[i]:=by
 obtain⟨u0,u1⟩:=h i i0 i1
 unfold path;rw[if_pos ⟨by omega,i1⟩,if_pos ⟨u0,by omega⟩]
 show Yu ns (i.toNat+1) i=_
 rw[Yu,if_neg (by omega)]
 rw[Yv h i.toNat ((nd ns i).up.toNat+1) (nd ns i).up u0 (by omega) (by omega) (by omega)]
theorem zG {ns:List Node} {i:Int} (h:¬(0≤i∧i<ns.length)):path ns i=[]:=if_neg h
theorem S5 {ns:List Node} (h:gK ns):∀(k:Nat) (i:Int),i.toNat=k→0≤i→i<ns.length→(path ns i).length≤i+1:=by
 intro k;induction k using Nat.strongRecOn with
 | _ k ih =>
   intro i hk i0 i1;by_cases hi:i=0
   ·subst hi;rw[rH (by omega)];simp
   ·obtain⟨u0,u1⟩:=h i (by omega) i1
    rw[pW h (by omega) i1]
    have:=ih (nd ns i).up.toNat (by omega) _ rfl u0 (by omega)
    simp only[List.length_append,List.length_singleton];omega
theorem Bs {ns:List Node} (h:gK ns) (i:Int):((path ns i).length:Int)≤ns.length:=by
 by_cases hi:0≤i∧i<ns.length
 ·have:=S5 h _ i rfl hi.1 hi.2;omega
 ·rw[zG hi];simp
theorem aPj (ns:List Node) (i:Int) (h:¬(0≤i∧i<ns.length)):aB Tryz.prog 76 [.agg (cO ⟨ns⟩),.v (.int .i64 i)]=some (.v (.slice none 0 0)):=by
 rw[cL Tryz.func76 rfl aJW rfl];have hd:(decide (0≤i) && decide (i<ns.length))=false:=by
  rw[← Bool.not_eq_true];simpa using h
 simp only[ZZ,seval,US,hd];exact bZ rfl (by simp only[EV,seval]) (.v _)
theorem c76 (ns:List Node) (hu:gK ns) (hn:(ns.length:Int)<1000000):∀(k:Nat) (i:Int),i.toNat=k→0≤i→i<ns.length→aB Tryz.prog 76 [.agg (cO ⟨ns⟩),.v (.int .i64 i)]=some (.uniq 3 1 (path ns i).length (aK (path ns i))):=by
 intro k;induction k using Nat.strongRecOn with
 | _ k ih =>
   intro i hk i0 i1;have hd:(decide (0≤i) && decide (i<ns.length))=true:=by simp[i0,i1]
   rw[cL Tryz.func76 rfl aJW rfl];by_cases hi:i=0
   ·subst hi;simp only[ZZ,seval,US,hd,i1,beq_self_eq_true];exact tV rfl (by simp only[EV,seval];rfl) (by simp only[EV,seval,rH (show 0<ns.length by omega)];rfl) (fV _)
   ·obtain⟨u0,u1⟩:=hu i (by omega) i1
    have hq:(i == 0)=false:=by simp[hi]
    have hr:=ih (nd ns i).up.toNat (by omega) _ rfl u0 (by omega)
    have hc:∀(st:St) (d:Nat),aO (aB Tryz.prog) 76 [.agg (cO ⟨ns⟩),.v (.int .i64 (nd ns i).up)] st (some d)=some { dst:=some d,val:=.own d (st.aU d),new:=some (d,[.row 3 1 (path ns (nd ns i).up).length (aK (path ns (nd ns i).up))])}:=fun st d=>jG (bF (mD _) (.v _)) hr
    have hl:((path ns (nd ns i).up).length:Int)<1000000:=by have:=Bs hu (nd ns i).up;omega
    simp only[ZZ,seval,US,hd,hq,i0,i1,hc,hl];exact tV rfl (by simp only[EV,seval];rfl) (by simp only[EV,seval,pW hu (show 0<i by omega) i1]) (fV _)
theorem k76 (ns:List Node) (hu:gK ns) (hn:(ns.length:Int)<1000000) (i:Int) (i0:0≤i) (i1:i<ns.length) (st:St) (d:Nat):aO (aB Tryz.prog) 76 [.agg (cO ⟨ns⟩),.v (.int .i64 i)] st (some d)=some { dst:=some d,val:=.own d (st.aU d),new:=some (d,[.row 3 1 (path ns i).length (aK (path ns i))])}:=jG (bF (mD _) (.v _)) (c76 ns hu hn _ i rfl i0 i1)
theorem E4 (ns:List Node) (i:Int) (h:¬(0≤i∧i<ns.length)) (st:St) (d:Option Nat):aO (aB Tryz.prog) 76 [.agg (cO ⟨ns⟩),.v (.int .i64 i)] st d=some { dst:=d,val:=.v (.slice none 0 0)}:=bG (bF (mD _) (.v _)) (aPj ns i h) (.v _)
def tW (ns:List Node) (a b:Int):Bool:=decide (a∈path ns b)
theorem c47 (ns:List Node) (hu:gK ns) (hn:(ns.length:Int)<1000000) (a b:Int):aB Tryz.prog 47 [.agg (cO ⟨ns⟩),.v (.int .i64 a),.v (.int .i64 b)]=some (.v (.bool (tW ns a b))):=by
 rw[cL Tryz.func47 rfl aPk rfl];by_cases hb:0≤b∧b<ns.length
 ·have hl:((path ns b).length:Int)<1000000:=by have:=Bs hu b;omega
  simp only[ZZ,seval,k76 ns hu hn b hb.1 hb.2,q49,k49,hl];exact bZ rfl (by simp only[EV,seval,tW]) (.v _)
 ·simp only[ZZ,seval,E4 ns b hb,q49,aPi];exact bZ rfl (by simp only[EV,seval,tW,zG hb,List.not_mem_nil,decide_false]) (.v _)
theorem Pq (ns:List Node) (hu:gK ns) (hn:(ns.length:Int)<1000000) (a b:Int) (st:St) (d:Option Nat):aO (aB Tryz.prog) 47 [.agg (cO ⟨ns⟩),.v (.int .i64 a),.v (.int .i64 b)] st d=some { dst:=d,val:=.v (.bool (tW ns a b))}:=bG (mE (mD _) (.v _) (.v _)) (c47 ns hu hn a b) (.v _)
theorem aCx:Flat (.agg [.v (.slice none 0 0)]):=.agg _ (by simp;exact .v _)
theorem Ds (x m:Int) (hm:0≤m∧m<9223372036854775808):0≤IntKind.i64.wrap ↑(BitVec.ofInt IntKind.i64.bits x &&& BitVec.ofInt IntKind.i64.bits m).toNat∧IntKind.i64.wrap ↑(BitVec.ofInt IntKind.i64.bits x &&& BitVec.ofInt IntKind.i64.bits m).toNat≤m:=by
 have h0:(BitVec.ofInt IntKind.i64.bits x &&& BitVec.ofInt IntKind.i64.bits m).toNat≤(BitVec.ofInt IntKind.i64.bits m).toNat:=by rw[BitVec.toNat_and];exact Nat.and_le_right
 have hb:IntKind.i64.bits=64:=rfl
 have h:(BitVec.ofInt IntKind.i64.bits (m:Int)).toNat=m.toNat:=by
  rw[BitVec.toNat_ofInt,hb];omega
 rw[h] at h0;rw[Hi _ (by omega) (by omega)]
 omega
theorem VK {i n:Int} (h:0≤i) (hn:0<n):0≤i.tdiv n∧i.tdiv n≤i:=by
 rw[Int.tdiv_eq_ediv_of_nonneg h];exact⟨Int.ediv_nonneg h (by omega),Int.ediv_le_self n h⟩
theorem cP {i n:Int} (h:0≤i) (hn:0<n):0≤i.tmod n∧i.tmod n<n:=by
 rw[Int.tmod_eq_emod_of_nonneg h];exact⟨Int.emod_nonneg i (by omega),Int.emod_lt_of_pos i hn⟩
theorem Bt {i:Int} (h:0≤i) (s:Nat):0≤i.fdiv (2 ^ s):=by
 have h2:(0:Int)≤2 ^ s:=Int.pow_nonneg (by decide)
 rw[Int.fdiv_eq_ediv_of_nonneg _ h2];exact Int.ediv_nonneg h h2
theorem aJX (l:List Int) (hl:(l.length:Int)≤9223372036854775807) (i:Int) (i0:0≤i) (i1:i<1000000):∃k:Int,aB Tryz.prog 145 [.sl l.length (aK l),.v (.int .i64 i)]=some (.v (.int .i64 k))∧0≤k∧k≤17777215:=by
 rw[cL Tryz.func145 rfl S6 rfl];by_cases h:(l.length:Int)=0
 ·have hq:((l.length:Int) == 0)=true:=by simp[h]
  simp only[ZZ,seval,hq];obtain⟨b1,b2⟩:=Ds i 65535 (by decide)
  exact⟨_,bZ rfl (by simp only[EV,seval]<;>rfl) (.v _),b1,by omega⟩
 ·have hq:((l.length:Int) == 0)=false:=by rw[beq_eq_false_iff_ne];exact h
  obtain⟨m1,m2⟩:=cP (n:=(l.length:Int)) i0 (by omega)
  obtain⟨d1,d2⟩:=VK (n:=(l.length:Int)) i0 (by omega)
  simp only[ZZ,seval,hq,h,m1,m2];obtain⟨b1,b2⟩:=Ds (it l (i.tmod ↑l.length)) 16777215 (by decide)
  refine⟨_,bZ rfl (by simp only[EV,seval]<;>rfl) (.v _), ?_, ?_⟩
  all_goals
   rw[Hi (i.tdiv ↑l.length) (by omega) (by omega),Hi _ (by omega) (by omega)]
   omega
noncomputable def Lr (l:List Int) (i:Int):Int:=if h:((l.length:Int)≤9223372036854775807∧0≤i∧i<1000000) then Classical.choose (aJX l h.1 i h.2.1 h.2.2) else 0
theorem Ie (l:List Int) (hl:(l.length:Int)≤9223372036854775807) (i:Int) (i0:0≤i) (i1:i<1000000):aB Tryz.prog 145 [.sl l.length (aK l),.v (.int .i64 i)]=some (.v (.int .i64 (Lr l i)))∧0≤Lr l i∧Lr l i≤17777215:=by
 have h:((l.length:Int)≤9223372036854775807∧0≤i∧i<1000000):=⟨hl,i0,i1⟩
 unfold Lr;rw[dif_pos h];exact Classical.choose_spec (aJX l h.1 i h.2.1 h.2.2)
theorem Ps (l:List Int) (hl:(l.length:Int)≤9223372036854775807) (i:Int) (i0:0≤i) (i1:i<1000000) (st:St) (d:Option Nat):aO (aB Tryz.prog) 145 [.sl l.length (aK l),.v (.int .i64 i)] st d=some { dst:=d,val:=.v (.int .i64 (Lr l i))}:=bG (bF (Sw l) (.v _)) (Ie l hl i i0 i1).1 (.v _)
def mkRoot (n:Int):cN:=((dR.set 0 (IntKind.u8.wrap n)).set 1 (IntKind.u8.wrap (n.fdiv (2 ^ min 8 IntKind.i64.bits)))).set 31 (IntKind.u8.wrap (IntKind.i64.wrap (n * 7)))
theorem c30 (n:Int):aB Tryz.prog 30 [.v (.int .i64 n)]=some (.agg (bD (mkRoot n))):=by
 rw[cL Tryz.func30 rfl aPl rfl];simp only[ZZ,seval,Yw,Nat.reduceLT];exact fL rfl (by simp only[EV,seval];rfl) (by simp only[ZZ,seval];rfl) (.agg _ (dO _))
theorem Ss (n:Int) (st:St) (d:Option Nat):aO (aB Tryz.prog) 30 [.v (.int .i64 n)] st d=some { dst:=d,val:=.agg (bD (mkRoot n))}:=bG (cV (.v _)) (c30 n) (qQ _)
theorem aPm (b:Block) (s:Int):aB Tryz.prog 157 [.agg (aV b),.v (.int .i64 s)]=some (.agg (cO ⟨[⟨b,-1,s⟩]⟩)):=by
 rw[cL Tryz.func157 rfl aJY rfl];simp only[ZZ,seval];exact eA rfl (by simp only[EV,seval];rfl) (by simp only[ZZ,seval];rfl) (by simp only[EV,seval,Option.map_some]<;>rfl)
theorem aPn (b:Block) (s:Int) (st:St) (d:Option Nat):aO (aB Tryz.prog) 157 [.agg (aV b),.v (.int .i64 s)] st d=some { dst:=d,val:=.agg (cO ⟨[⟨b,-1,s⟩]⟩)}:=bG (bF (tJ _) (.v _)) (aPm b s) (mD _)
theorem E5 (i:Int) (st:St) (d:Option Nat):aO (aB Tryz.prog) 186 [.v (.int .i64 i)] st d=some { dst:=d,val:=.v (.bool (VJ i))}:=bG (cV (.v _)) (aPg i) (.v _)
theorem mU (ns:List Node) (r:cN) (hn:(ns.length:Int)<1000000) (st:St) (d:Option Nat):aO (aB Tryz.prog) 46 [.agg (cO ⟨ns⟩),.agg (bD r)] st d=some { dst:=d,val:=.v (.int .i64 (aN ns r))}:=bG (bF (mD _) (qQ _)) (c46 ns r hn) (.v _)
noncomputable def DR (ns:List Node) (b:Block) (s:Int):Int :=
 if VJ s=false then 2 else if 0≤aN ns b.root then 9 else if aN ns b.parent<0 then 10 else if b.slot≤(nd ns (aN ns b.parent)).block.slot then 14 else if 4096≤(ns.length:Int) then 11 else 0
noncomputable def Ig (ns:List Node) (b:Block) (s:Int):AV :=
 if DR ns b s=0 then .eG [.agg (cO ⟨ns++[⟨b,aN ns b.parent,s⟩]⟩),.v (.int .i64 0)] else .eG [.agg [.v (.slice none 0 0)],.v (.int .i64 (DR ns b s))]
theorem eQ (ns:List Node) (r:cN):-1≤aN ns r∧aN ns r<ns.length:=by
 unfold aN;cases h:ns.findIdx? (fun n=>decide (n.block.root=r)) with
 | none=>simp only;omega
 | some k =>
   have:=(List.findIdx?_eq_some_iff_getElem.1 h).1
   simp only;omega
theorem aPo (ns:List Node) (hn:(ns.length:Int)<1000000) (b:Block) (s:Int):aB Tryz.prog 149 [.agg (cO ⟨ns⟩),.agg (aV b),.v (.int .i64 s)]=some (Ig ns b s):=by
 rw[cL Tryz.func149 rfl aJZ rfl];have hu:=eQ ns b.parent
 cases hs:VJ s
 ·simp only[ZZ,seval,E5,hs];rw[show Ig ns b s=.eG [.agg [.v (.slice none 0 0)],.v (.int .i64 2)] from by simp[Ig,DR,hs]]
  exact dK rfl (by simp only[bY,ZZ,seval];rfl) (by simp only[bY,EV,seval]<;>rfl) (by simp only[EV,seval]<;>rfl) (by simp only[EV,seval]<;>rfl)
 by_cases h1:0≤aN ns b.root
 ·simp only[ZZ,seval,E5,hs,mU,hn,h1];rw[show Ig ns b s=.eG [.agg [.v (.slice none 0 0)],.v (.int .i64 9)] from by simp[Ig,DR,hs,h1]]
  exact dK rfl (by simp only[bY,ZZ,seval];rfl) (by simp only[bY,EV,seval]<;>rfl) (by simp only[EV,seval]<;>rfl) (by simp only[EV,seval]<;>rfl)
 by_cases h2:aN ns b.parent<0
 ·simp only[ZZ,seval,E5,hs,mU,hn,h1,h2];rw[show Ig ns b s=.eG [.agg [.v (.slice none 0 0)],.v (.int .i64 10)] from by simp[Ig,DR,hs,h1,h2]]
  exact dK rfl (by simp only[bY,ZZ,seval];rfl) (by simp only[bY,EV,seval]<;>rfl) (by simp only[EV,seval]<;>rfl) (by simp only[EV,seval]<;>rfl)
 have u0:0≤aN ns b.parent:=by omega
 have u1:aN ns b.parent<ns.length:=hu.2
 by_cases h3:b.slot≤(nd ns (aN ns b.parent)).block.slot
 ·simp only[ZZ,seval,E5,hs,mU,hn,h1,h2,u0,u1,h3];rw[show Ig ns b s=.eG [.agg [.v (.slice none 0 0)],.v (.int .i64 14)] from by simp[Ig,DR,hs,h1,h2,h3]]
  exact dK rfl (by simp only[bY,ZZ,seval];rfl) (by simp only[bY,EV,seval]<;>rfl) (by simp only[EV,seval]<;>rfl) (by simp only[EV,seval]<;>rfl)
 by_cases h4:4096≤(ns.length:Int)
 ·simp only[ZZ,seval,E5,hs,mU,hn,h1,h2,u0,u1,h3,h4];rw[show Ig ns b s=.eG [.agg [.v (.slice none 0 0)],.v (.int .i64 11)] from by simp[Ig,DR,hs,h1,h2,h3,h4]]
  exact dK rfl (by simp only[bY,ZZ,seval];rfl) (by simp only[bY,EV,seval]<;>rfl) (by simp only[EV,seval]<;>rfl) (by simp only[EV,seval]<;>rfl)
 ·simp only[ZZ,seval,E5,hs,mU,hn,h1,h2,u0,u1,h3,h4];rw[show Ig ns b s=.eG [.agg (cO ⟨ns++[⟨b,aN ns b.parent,s⟩]⟩),.v (.int .i64 0)] from by simp[Ig,DR,hs,h1,h2,h3,h4]]
  exact dK rfl (by simp only[bY,ZZ,seval];rfl) (by simp only[bY,EV,seval]<;>rfl) (by simp only[EV,seval]<;>rfl) (by simp only[EV,seval]<;>rfl)
theorem E6 (ns:List Node) (b:Block) (s:Int):Flat (Ig ns b s):=by
 unfold Ig;split
 ·exact .eG _ (bF (mD _) (.v _))
 ·exact .eG _ (bF aCx (.v _))
theorem aPp (ns:List Node) (hn:(ns.length:Int)<1000000) (b:Block) (s:Int) (st:St) (d:Option Nat):aO (aB Tryz.prog) 149 [.agg (cO ⟨ns⟩),.agg (aV b),.v (.int .i64 s)] st d=some { dst:=d,val:=Ig ns b s }:=bG (mE (mD _) (tJ _) (.v _)) (aPo ns hn b s) (E6 ns b s)
theorem aPq (n:Int):aB Tryz.prog 188 [.v (.int .u64 n)]=some (.v (.bool (decide (1≤n) && decide (n≤64)))):=by
 rw[cL Tryz.func188 rfl aJ0 rfl];by_cases h:1≤n
 all_goals
  simp only[Z8,seval,h,decide_true,decide_false,Bool.true_and,Bool.false_and];exact bZ rfl (by simp only[E8,seval,h,decide_true,decide_false,Bool.true_and,Bool.false_and]<;>rfl) (.v _)
theorem aJ1 (n:Int) (st:St) (d:Option Nat):aO (aB Tryz.prog) 188 [.v (.int .u64 n)] st d=some { dst:=d,val:=.v (.bool (decide (1≤n) && decide (n≤64)))}:=bG (cV (.v _)) (aPq n) (.v _)
noncomputable def DS (a b:Int):Int × Int:=if b≠0∧IntKind.u64.wrap (Int.tdiv 18446744073709551615 b)<a then (0,4) else (IntKind.u64.wrap (a * b),0)
theorem aPr (a b:Int):aB Tryz.prog 189 [.v (.int .u64 a),.v (.int .u64 b)]=some (.eG [.v (.int .u64 (DS a b).1),.v (.int .i64 (DS a b).2)]):=by
 rw[cL Tryz.func189 rfl aJ2 rfl];unfold DS;by_cases h:b=0
 ·rw[if_neg (fun k=>k.1 h)]
  have hb:(b != 0)=false:=by simp[h]
  simp only[Z8,seval,hb];exact dK rfl rfl rfl (by simp only[E8,seval]<;>rfl) (by simp only[E8,seval]<;>rfl)
 ·have hb:(b != 0)=true:=by simp[h]
  have n5:(b=0)=False:=eq_false h
  by_cases h2:IntKind.u64.wrap (Int.tdiv 18446744073709551615 b)<a
  ·rw[if_pos ⟨h,h2⟩];simp only[Z8,seval,hb,n5,h2];exact dK rfl rfl rfl (by simp only[E8,seval]<;>rfl) (by simp only[E8,seval]<;>rfl)
  ·rw[if_neg (fun k=>h2 k.2)]
   simp only[Z8,seval,hb,n5,h2];exact dK rfl rfl rfl (by simp only[E8,seval]<;>rfl) (by simp only[E8,seval]<;>rfl)
theorem aPs (a b:Int) (st:St) (d:Option Nat):aO (aB Tryz.prog) 189 [.v (.int .u64 a),.v (.int .u64 b)] st d=some { dst:=d,val:=.eG [.v (.int .u64 (DS a b).1),.v (.int .i64 (DS a b).2)]}:=bG (bF (.v _) (.v _)) (aPr a b) (.eG _ (bF (.v _) (.v _)))
noncomputable def Pt (e p:Int):Int × Int:=if 1≤p∧p≤64 then DS e p else (0,3)
theorem aPt (e p:Int):aB Tryz.prog 155 [.v (.int .u64 e),.v (.int .u64 p)]=some (.eG [.v (.int .u64 (Pt e p).1),.v (.int .i64 (Pt e p).2)]):=by
 rw[cL Tryz.func155 rfl aJ3 rfl];unfold Pt;by_cases h:1≤p∧p≤64
 ·have h1:(decide (1≤p) && decide (p≤64))=true:=by simp[h]
  rw[if_pos h];simp only[Z8,seval,aJ1,h1,aPs,dN];exact dK rfl rfl rfl (by simp only[E8,seval]<;>rfl) (by simp only[E8,seval]<;>rfl)
 ·have h1:(decide (1≤p) && decide (p≤64))=false:=by
   rw[Bool.eq_false_iff];intro k;simp at k;exact h k
  rw[if_neg h];simp only[Z8,seval,aJ1,h1];exact dK rfl rfl rfl (by simp only[E8,seval]<;>rfl) (by simp only[E8,seval]<;>rfl)
theorem aPu (e p:Int) (st:St) (d:Option Nat):aO (aB Tryz.prog) 155 [.v (.int .u64 e),.v (.int .u64 p)] st d=some { dst:=d,val:=.eG [.v (.int .u64 (Pt e p).1),.v (.int .i64 (Pt e p).2)]}:=bG (bF (.v _) (.v _)) (aPt e p) (.eG _ (bF (.v _) (.v _)))
theorem aPv (n a b:Int):aB Tryz.prog 156 [.v (.int .i64 n),.v (.int .i64 a),.v (.int .i64 b)]=some (.v (.bool (decide (a≤n) && decide (n≤b)))):=by
 rw[cL Tryz.func156 rfl aJ4 rfl];by_cases h:a≤n
 all_goals
  simp only[Z8,seval,h,decide_true,decide_false,Bool.true_and,Bool.false_and];exact bZ rfl (by simp only[E8,seval,h,decide_true,decide_false,Bool.true_and,Bool.false_and]<;>rfl) (.v _)
theorem aPw (n a b:Int) (st:St) (d:Option Nat):aO (aB Tryz.prog) 156 [.v (.int .i64 n),.v (.int .i64 a),.v (.int .i64 b)] st d=some { dst:=d,val:=.v (.bool (decide (a≤n) && decide (n≤b)))}:=bG (mE (.v _) (.v _) (.v _)) (aPv n a b) (.v _)
noncomputable def DT (a b:Int):Int × Int:=if IntKind.u64.wrap (18446744073709551615-b)<a then (0,4) else (IntKind.u64.wrap (a+b),0)
theorem aPx (a b:Int):aB Tryz.prog 196 [.v (.int .u64 a),.v (.int .u64 b)]=some (.eG [.v (.int .u64 (DT a b).1),.v (.int .i64 (DT a b).2)]):=by
 rw[cL Tryz.func196 rfl aJ5 rfl];unfold DT;by_cases h:IntKind.u64.wrap (18446744073709551615-b)<a
 ·rw[if_pos h];simp only[Z8,seval,h];exact dK rfl rfl rfl (by simp only[E8,seval]<;>rfl) (by simp only[E8,seval]<;>rfl)
 ·rw[if_neg h];simp only[Z8,seval,h];exact dK rfl rfl rfl (by simp only[E8,seval]<;>rfl) (by simp only[E8,seval]<;>rfl)
theorem aGc (a b:Int) (st:St) (d:Option Nat):aO (aB Tryz.prog) 196 [.v (.int .u64 a),.v (.int .u64 b)] st d=some { dst:=d,val:=.eG [.v (.int .u64 (DT a b).1),.v (.int .i64 (DT a b).2)]}:=bG (bF (.v _) (.v _)) (aPx a b) (.eG _ (bF (.v _) (.v _)))
theorem GJ (l:List Int):∀c∈bI l,iD c:=by rw[NQ];intro c hc;obtain⟨x,_,rfl⟩:=List.mem_map.1 hc;exact .v _
theorem aPy (ns:List Node) (i:Int):aB Tryz.prog 154 [.agg (cO ⟨ns⟩),.v (.int .i64 i)]=some (.v (.bool (decide (0≤i) && decide (i<ns.length)))):=by
 rw[cL Tryz.func154 rfl aJ6 rfl];by_cases h:0≤i
 all_goals
  simp only[ZZ,seval,h,decide_true,decide_false,Bool.false_eq_true,Bool.true_and,Bool.false_and];exact bZ rfl (by simp only[EV,seval]) (.v _)
theorem aGd (ns:List Node) (i:Int) (st:St) (d:Option Nat):aO (aB Tryz.prog) 154 [.agg (cO ⟨ns⟩),.v (.int .i64 i)] st d=some { dst:=d,val:=.v (.bool (decide (0≤i) && decide (i<ns.length)))}:=bG (bF (mD _) (.v _)) (aPy ns i) (.v _)
theorem vK {ns:List Node} (h:gK ns) {i:Int} (i0:0≤i) (i1:i<ns.length):i∈path ns i:=by
 by_cases hi:i=0
 ·subst hi;rw[rH (by omega)];simp
 ·rw[pW h (by omega) i1];simp
theorem Pu {ns:List Node} (h:gK ns):∀(k:Nat) (i:Int),i.toNat=k→0≤i→i<ns.length→∀x∈path ns i,0≤x∧x≤i:=by
 intro k;induction k using Nat.strongRecOn with
 | _ k ih =>
   intro i hk i0 i1 x hx;by_cases hi:i=0
   ·subst hi;rw[rH (by omega)] at hx;simp at hx;omega
   ·obtain⟨u0,u1⟩:=h i (by omega) i1
    rw[pW h (by omega) i1] at hx
    rcases List.mem_append.1 hx with hx|hx
    ·have:=ih (nd ns i).up.toNat (by omega) _ rfl u0 (by omega) x hx
     omega
    ·simp at hx;omega
theorem vL {ns:List Node} (h:gK ns) {i x:Int} (hx:x∈path ns i):0≤x∧x<ns.length:=by
 by_cases hi:0≤i∧i<ns.length
 ·have:=Pu h _ i rfl hi.1 hi.2 x hx;omega
 ·rw[zG hi] at hx;simp at hx
def Fv (ns:List Node) (s:Int) (l:List Int):Int:=l.foldl (fun r x=>if (nd ns x).block.slot≤s then x else r) (-1)
def IU (ns:List Node) (i s:Int):Int:=Fv ns s (path ns i)
theorem Yx (ns:List Node) (s:Int) (l:List Int) (x:Int):Fv ns s (l++[x])=if (nd ns x).block.slot≤s then x else Fv ns s l:=by simp[Fv]
theorem NR {ns:List Node} {i:Int} (s:Int) (h:¬(0≤i∧i<ns.length)):IU ns i s=-1:=by unfold IU;rw[zG h];rfl
theorem aCy {l:List Int} {j:Int} (j0:0≤j) (j1:j<l.length):l.take (j+1).toNat=l.take j.toNat++[it l j]:=by
 obtain⟨h,e⟩:=yA j0 j1
 rw[e,show (j+1).toNat=j.toNat+1 by omega,List.take_succ_eq_append_getElem h]
theorem Fw {l:List Int} {j:Int} (j0:0≤j) (j1:j<l.length):it l j∈l:=by
 obtain⟨h,e⟩:=yA j0 j1
 rw[e];exact List.getElem_mem h
theorem aPz (ns:List Node) (hu:gK ns) (hn:(ns.length:Int)<1000000) (i s:Int):aB Tryz.prog 100 [.agg (cO ⟨ns⟩),.v (.int .i64 i),.v (.int .u64 s)]=some (.v (.int .i64 (IU ns i s))):=by
 rw[cL Tryz.func100 rfl aJ7 rfl];by_cases hv:0≤i∧i<ns.length
 ·have hl:((path ns i).length:Int)<1000000:=by have:=Bs hu i;omega
  have hp:=k76 ns hu hn i hv.1 hv.2
  have hrg:∀x∈path ns i,0≤x∧x<ns.length:=fun x=>vL hu
  unfold IU;generalize path ns i=p at hl hp hrg
  simp only[ZZ,seval,hp];refine kJ (fun n st=>∃j:Int,st.env 2=.v (.int .u64 s)∧st.env 3=.ptr 3 0 0∧st.heap 3 0=some (.cells (cO ⟨ns⟩))∧st.env 8=.own 12 0∧st.heap 12 0=some (.row 3 1 p.length (aK p))∧st.env 9=.v (.int .i64 j)∧st.env 7=.v (.int .i64 (Fv ns s (p.take j.toNat)))∧0≤j∧j≤p.length∧n=(p.length-j).toNat)
   (fun e st=>e=.exit 0∧st.env 7=.v (.int .i64 (Fv ns s p))) p.length ?step ?start ?rest
  case step =>
   rintro n st ⟨j,h2,h3,IT,h8,hh8,h9,h7,j0,j1,Hu⟩
   by_cases bA:j<p.length
   ·have hw:IntKind.i64.wrap (j+1)=j+1:=Hi _ (by omega) (by omega)
    obtain⟨x0,x1⟩:=hrg _ (Fw j0 bA)
    have ht:=aCy j0 bA
    by_cases hs:(nd ns (it p j)).block.slot≤s
    ·apply oN ((p.length-(j+1)).toNat)
     ·simp only[ZZ,seval,h2,h3,IT,h8,hh8,h9,bA,j0,hw,x0,x1,hs];rfl
     ·exact⟨j+1,by simp only[EV,seval,h2],by simp only[EV,seval,h3],by simp only[EV,seval,IT],by simp only[EV,seval,h8],by simp only[EV,seval,hh8],(by simp only[EV,seval]),by simp only[EV,seval,ht,Yx,hs],by omega,by omega,rfl⟩
    ·apply oN ((p.length-(j+1)).toNat)
     ·simp only[ZZ,seval,h2,h3,IT,h8,hh8,h9,bA,j0,hw,x0,x1,hs];rfl
     ·exact⟨j+1,by simp only[EV,seval,h2],by simp only[EV,seval,h3],by simp only[EV,seval,IT],by simp only[EV,seval,h8],by simp only[EV,seval,hh8],(by simp only[EV,seval]),by simp only[EV,seval,ht,Yx,hs,h7],by omega,by omega,rfl⟩
   ·have ht:p.take j.toNat=p:=List.take_of_length_le (by omega)
    apply oT (.exit 0)
    ·simp only[ZZ,seval,h2,h3,IT,h8,hh8,h9,bA,j0];rfl
    ·exact⟨rfl,by rw[← ht];exact h7⟩
  case start=>exact⟨0,(by simp only[EV,seval]),(by simp only[EV,seval]),(by simp only[EV,seval]),(by simp only[EV,seval]),(by simp only[EV,seval]),(by simp only[EV,seval]),(by simp only[EV,seval];rfl),by omega,by omega,by omega⟩
  case rest =>
   rintro e st ⟨rfl,h⟩
   simp only[ZZ,seval,h];exact bZ rfl (by simp only[EV,seval]) (.v _)
 ·rw[NR s hv];simp only[ZZ,seval,E4 ns i hv,Ic,Int.natCast_zero,Int.lt_irrefl,decide_false];exact bZ rfl (by simp only[EV,seval]) (.v _)
theorem NS (ns:List Node) (hu:gK ns) (hn:(ns.length:Int)<1000000) (i s:Int) (st:St) (d:Option Nat):aO (aB Tryz.prog) 100 [.agg (cO ⟨ns⟩),.v (.int .i64 i),.v (.int .u64 s)] st d=some { dst:=d,val:=.v (.int .i64 (IU ns i s))}:=bG (mE (mD _) (.v _) (.v _)) (aPz ns hu hn i s) (.v _)
theorem aCz {ns:List Node} (hu:gK ns) {a c:Int} (h0:0≤c) (h1:c<ns.length) (h:¬a<c):tW ns a c=decide (a=c):=by
 unfold tW;rw[decide_eq_decide];constructor
 ·intro hm;have:=Pu hu _ c rfl h0 h1 a hm;omega
 ·rintro rfl;exact vK hu h0 h1
theorem S7 {ns:List Node} (hu:gK ns) {a c:Int} (h1:c<ns.length) (h:a<c) (a0:0≤a):tW ns a c=tW ns a (nd ns c).up:=by
 unfold tW;rw[decide_eq_decide,pW hu (by omega) h1]
 simp only[List.mem_append,List.mem_singleton];constructor
 ·rintro (hm|rfl)
  ·exact hm
  ·omega
 ·exact .inl
theorem GK {ns:List Node} (hu:gK ns) {a c:Int} (h:¬((0≤a∧a<ns.length)∧(0≤c∧c<ns.length))):tW ns a c=false:=by
 unfold tW;rw[decide_eq_false_iff_not];intro hm;by_cases hc:0≤c∧c<ns.length
 ·exact h ⟨vL hu hm,hc⟩
 ·rw[zG hc] at hm;simp at hm
theorem aPA (ns:List Node) (hu:gK ns) (a b:Int):aB Tryz.prog 121 [.agg (cO ⟨ns⟩),.v (.int .i64 a),.v (.int .i64 b)]=some (.v (.bool (tW ns a b))):=by
 rw[cL Tryz.func121 rfl aKa rfl];by_cases hv:(0≤a∧a<ns.length)∧(0≤b∧b<ns.length)
 ·have hda:(decide (0≤a) && decide (a<ns.length))=true:=by simp[hv.1.1,hv.1.2]
  have hdb:(decide (0≤b) && decide (b<ns.length))=true:=by simp[hv.2.1,hv.2.2]
  simp only[ZZ,seval,aGd,hda,hdb];refine kJ (fun n st=>∃c:Int,st.env 1=.v (.int .i64 a)∧st.env 2=.v (.int .i64 c)∧st.env 3=.ptr 3 0 0∧st.heap 3 0=some (.cells (cO ⟨ns⟩))∧tW ns a b=tW ns a c∧0≤c∧c<ns.length∧n=c.toNat)
   (fun e st=>e=.exit 0∧∃c:Int,st.env 1=.v (.int .i64 a)∧st.env 2=.v (.int .i64 c)∧tW ns a b=decide (a=c)) b.toNat ?step ?start ?rest
  case step =>
   rintro n st ⟨c,h1,h2,h3,IT,hb,c0,c1,Hu⟩
   by_cases bA:a<c
   ·obtain⟨u0,u1⟩:=hu c (by omega) c1
    apply oN (((nd ns c).up).toNat)
    ·simp only[ZZ,seval,h1,h2,h3,IT,bA,c0,c1];rfl
    ·exact⟨(nd ns c).up,by simp only[EV,seval,h1],(by simp only[EV,seval]),by simp only[EV,seval,h3],by simp only[EV,seval,IT],hb.trans (S7 hu c1 bA hv.1.1),u0,by omega,rfl⟩
   ·apply oT (.exit 0)
    ·simp only[ZZ,seval,h1,h2,h3,IT,bA];rfl
    ·exact⟨rfl,c,by simp only[EV,seval,h1],by simp only[EV,seval,h2],hb.trans (aCz hu c0 c1 bA)⟩
  case start=>exact⟨b,(by simp only[EV,seval]),(by simp only[EV,seval]),(by simp only[EV,seval]),(by simp only[EV,seval]),rfl,hv.2.1,hv.2.2,rfl⟩
  case rest =>
   rintro e st ⟨rfl,c,h1,h2,h⟩
   have hbq:(a == c)=decide (a=c):=rfl
   simp only[ZZ,seval,h1,h2];exact bZ rfl (by simp only[EV,seval,h,hbq]) (.v _)
 ·rw[GK hu hv];by_cases ha:0≤a∧a<ns.length
  ·have hda:(decide (0≤a) && decide (a<ns.length))=true:=by simp[ha.1,ha.2]
   have hdb:(decide (0≤b) && decide (b<ns.length))=false:=by rw[← Bool.not_eq_true];simpa using fun h h'=>hv ⟨ha,h,h'⟩
   simp only[ZZ,seval,aGd,hda,hdb];exact bZ rfl (by simp only[EV,seval]) (.v _)
  ·have hda:(decide (0≤a) && decide (a<ns.length))=false:=by rw[← Bool.not_eq_true];simpa using ha
   simp only[ZZ,seval,aGd,hda];exact bZ rfl (by simp only[EV,seval]) (.v _)
theorem VL (ns:List Node) (hu:gK ns) (a b:Int) (st:St) (d:Option Nat):aO (aB Tryz.prog) 121 [.agg (cO ⟨ns⟩),.v (.int .i64 a),.v (.int .i64 b)] st d=some { dst:=d,val:=.v (.bool (tW ns a b))}:=bG (mE (mD _) (.v _) (.v _)) (aPA ns hu a b) (.v _)
theorem Yy {ns:List Node} (hu:gK ns) {a c:Int} (h:tW ns a c=true):(0≤a∧a<ns.length)∧(0≤c∧c<ns.length):=by
 by_cases hv:(0≤a∧a<ns.length)∧(0≤c∧c<ns.length)
 ·exact hv
 ·rw[GK hu hv] at h;cases h
theorem S8 {ns:List Node} (hu:gK ns) {a c:Int} (h:tW ns a c=true):a≤c:=by
 have hr:=(Yy hu h).2
 unfold tW at h;exact (Pu hu _ c rfl hr.1 hr.2 a (of_decide_eq_true h)).2
theorem aPC (a b:List Node) (hn:(a.length:Int)<1000000):aB Tryz.prog 106 [.agg (cO ⟨a⟩),.agg (cO ⟨b⟩)]=some (.v (.bool (decide (a=b)))):=by
 rw[cL Tryz.func106 rfl aKc rfl];by_cases hlen:a.length=b.length
 ·have hq:((a.length:Int) != (b.length:Int))=false:=by simp[hlen]
  simp only[ZZ,seval,hq];refine kJ (fun n st=>∃i:Int,st.env 2=.ptr 2 0 0∧st.env 3=.ptr 3 0 0∧st.heap 2 0=some (.cells (cO ⟨a⟩))∧st.heap 3 0=some (.cells (cO ⟨b⟩))∧st.env 5=.v (.int .i64 i)∧0≤i∧i≤a.length∧n=(a.length-i).toNat∧∀j,0≤j→j<i→nd a j=nd b j)
   (fun e st=>(e=.ret∧st.env 4=.v (.bool (decide (a=b))))∨(e=.exit 0∧decide (a=b)=true)) a.length ?step ?start ?rest
  case step =>
   rintro n st ⟨i,h2,h3,uZ,IT,h5,i0,i1,Hu,hb⟩
   by_cases bA:i<a.length
   ·have hw:IntKind.i64.wrap (i+1)=i+1:=Hi _ (by omega) (by omega)
    have Hh:i<b.length:=by omega
    by_cases hr:nd a i=nd b i
    ·have hbq:decide (nd a i=nd b i)=true:=by simp[hr]
     apply oN ((a.length-(i+1)).toNat)
     ·simp only[ZZ,seval,h2,h3,uZ,IT,h5,bA,Hh,i0,hbq,hw];rfl
     ·exact⟨i+1,by simp only[EV,seval,h2],by simp only[EV,seval,h3],by simp only[EV,seval,uZ],by simp only[EV,seval,IT],(by simp only[EV,seval]),by omega,by omega,rfl,fun j j0 j1=>by
      rcases Int.lt_or_eq_of_le (show j≤i by omega) with h|rfl
      ·exact hb j j0 h
      ·exact hr⟩
    ·have hbq:decide (nd a i=nd b i)=false:=by simp[hr]
     have hd:decide (a=b)=false:=by rw[decide_eq_false_iff_not];intro h;exact hr (by rw[h])
     apply oT (.ret)
     ·simp only[ZZ,seval,h2,h3,uZ,IT,h5,bA,Hh,i0,hbq];rfl
     ·exact .inl ⟨rfl,by simp only[EV,seval,hd]⟩
   ·apply oT (.exit 0)
    ·simp only[ZZ,seval,h2,h3,uZ,IT,h5,bA,i0];rfl
    ·exact .inr ⟨rfl,by
     rw[decide_eq_true_eq];apply List.ext_getElem hlen
     intro j h1 h2;have:=hb j (by omega) (by omega)
     simpa [nd,h1,h2] using this⟩
  case start=>exact⟨0,(by simp only[EV,seval]),(by simp only[EV,seval]),(by simp only[EV,seval]),(by simp only[EV,seval]),(by simp only[EV,seval]),by omega,by omega,by omega,fun j _ _=>by omega⟩
  case rest =>
   rintro e st (⟨rfl,h⟩|⟨rfl,h⟩)
   ·simp only[ZZ,seval];exact bZ rfl h (.v _)
   ·simp only[ZZ,seval];exact bZ rfl (by simp only[EV,seval,h]) (.v _)
 ·have hq:((a.length:Int) != (b.length:Int))=true:=by simp;omega
  have hd:decide (a=b)=false:=by rw[decide_eq_false_iff_not];intro h;exact hlen (by rw[h])
  simp only[ZZ,seval,hq];exact bZ rfl (by simp only[EV,seval,hd]) (.v _)
theorem aPD (a b:List Node) (hn:(a.length:Int)<1000000) (st:St) (d:Option Nat):aO (aB Tryz.prog) 106 [.agg (cO ⟨a⟩),.agg (cO ⟨b⟩)] st d=some { dst:=d,val:=.v (.bool (decide (a=b)))}:=bG (bF (mD _) (mD _)) (aPC a b hn) (.v _)
def jQ (ns:List Node) (i:Int):Nat→List Node × List Int
 | 0=>([],[])
 | k+1 =>
   let p:=jQ ns i k
   if tW ns i k=true then (p.1++[{ nd ns k with up:=if (k:Int)=i then -1 else it p.2 (nd ns k).up }],p.2++[(p.1.length:Int)]) else (p.1,p.2++[-1])
theorem wN (ns:List Node) (i:Int):∀k,(jQ ns i k).2.length=k
 | 0=>rfl
 | k+1=>by
   have:=wN ns i k
   simp only[jQ];split<;>simp[this]
theorem Ki (ns:List Node) (i:Int):∀k,(jQ ns i k).1.length≤k
 | 0=>Nat.le_refl _
 | k+1=>by
   have:=Ki ns i k
   simp only[jQ];split
   ·simp;exact this
   ·simp;omega
theorem kN {l m:List Int} {j:Int} (h0:0≤j) (h1:j<l.length):it (l++m) j=it l j:=by
 have:j.toNat<l.length:=by omega
 simp[it,List.getElem?_append_left this]
theorem vM {l:List Int} {x:Int} {j:Int} (h:j=l.length):it (l++[x]) j=x:=by
 subst h;simp[it]
theorem Kj {l m:List Node} {j:Int} (h0:0≤j) (h1:j<l.length):nd (l++m) j=nd l j:=by
 have:j.toNat<l.length:=by omega
 simp[nd,List.getElem?_append_left this]
theorem GL {l:List Node} {x:Node} {j:Int} (h:j=l.length):nd (l++[x]) j=x:=by
 subst h;simp[nd]
theorem NT (ns:List Node) (i:Int):∀(k:Nat) (j:Int),0≤j→j<k→(0≤it (jQ ns i k).2 j↔tW ns i j=true)
 | 0,j,_,h=>by omega
 | k+1,j,h0,h1=>by
   have hl:=wN ns i k
   by_cases hj:j<k
   ·have ih:=NT ns i k j h0 hj
    simp only[jQ];split
    ·simp only;rw[kN h0 (by omega)];exact ih
    ·simp only;rw[kN h0 (by omega)];exact ih
   ·have hjk:j=k:=by omega
    subst hjk;simp only[jQ];split
    ·rename_i h;simp only;rw[vM (by omega)];simp[h]
    ·rename_i h;simp only;rw[vM (by omega)];simp[h]
theorem Ih {ns:List Node} (hu:gK ns) {i:Int} (i0:0≤i) (i1:i<ns.length):tW ns i i=true:=by
 unfold tW;rw[decide_eq_true_eq];by_cases h:i=0
 ·subst h;rw[rH (by omega)];simp
 ·rw[pW hu (by omega) i1];simp
theorem S9 {ns:List Node} (hu:gK ns) {a i:Int} (i0:0<i) (i1:i<ns.length) (h:a≠i):tW ns a i=tW ns a (nd ns i).up:=by
 unfold tW;rw[pW hu i0 i1];simp[h]
theorem Yz {ns:List Node} {a:Int} (h:0<ns.length):tW ns a 0=decide (a=0):=by
 unfold tW;rw[rH h];simp
theorem VM (ns:List Node) (hu:gK ns) {i:Int} (i0:0≤i) (i1:i<ns.length):(jQ ns i ns.length).1≠[]:=by
 have main:∀k:Nat,i<k→k≤ns.length→(jQ ns i k).1≠[]:=by
  intro k;induction k with
  | zero=>intro h;omega
  | succ k ih =>
    intro h1 h2;by_cases hk:i<k
    ·have:=ih hk (by omega)
     simp only[jQ];split
     ·simp
     ·exact this
    ·have VN:i=k:=by omega
     have:tW ns i k=true:=by rw[← VN];exact Ih hu i0 i1
     simp[jQ,this]
 exact main ns.length i1 (Nat.le_refl _)
def aCA (st:St) (s1 s2:Nat) (y:AV) (l:List Int):Prop :=
 (y=.v (.slice none 0 0)∧l=[])∨(∃g,y=.own s1 g∧g<st.aU s1∧st.heap s1 g=some (.row 3 1 l.length (aK l)))∨(∃g,y=.own s2 g∧g<st.aU s2∧st.heap s2 g=some (.row 3 1 l.length (aK l)))
def aCB (st:St) (s1:Nat) (x:AV) (l:List Node):Prop :=
 (x=.v (.slice none 0 0)∧l=[])∨(∃g,x=.own s1 g∧g<st.aU s1∧st.heap s1 g=some (.row 76 240 l.length (bU l)))
theorem c34 (ns:List Node) (hu:gK ns) (hn:(ns.length:Int)<1000000) (i:Int) (i0:0≤i) (i1:i<ns.length):aB Tryz.prog 34 [.agg (cO ⟨ns⟩),.v (.int .i64 i)] =
 some (.eG [.agg (cO ⟨(jQ ns i ns.length).1⟩),.sl (jQ ns i ns.length).2.length (aK (jQ ns i ns.length).2),.v (.int .i64 0)]):=by
 have hd:(decide (0≤i) && decide (i<ns.length))=true:=by simp[i0,i1]
 rw[cL Tryz.func34 rfl aPF rfl];simp only[ZZ,seval,US,hd];refine kJ (fun n st=>∃(k:Nat) (x y:AV),st.env 2=.ptr 2 0 0∧st.heap 2 0=some (.cells (cO ⟨ns⟩))∧st.env 4=.ptr 4 0 0∧st.heap 4 0=some (.cells [.v (.slice none 0 0)])∧st.env 7=.ptr 7 0 0∧st.heap 7 0=some (.cells [x]) ∧
  st.env 1=.v (.int .i64 i)∧st.env 9=.v (.int .i64 k)∧k≤ns.length∧n=ns.length-k∧st.env 8=y∧aCA st 30 51 y (jQ ns i k).2∧aCB st 56 x (jQ ns i k).1)
  (fun e st=>e=.exit 0∧∃(x y:AV),st.env 4=.ptr 4 0 0∧st.heap 4 0=some (.cells [.v (.slice none 0 0)])∧st.env 7=.ptr 7 0 0∧st.heap 7 0=some (.cells [x])∧st.env 8=y∧aCA st 30 51 y (jQ ns i ns.length).2∧aCB st 56 x (jQ ns i ns.length).1) ns.length ?step ?start ?rest
 case step =>
  rintro n st ⟨k,x,y,h2,uZ,h4,pN,h7,Hj,h1,h9,hk,Hu,h8,hy,hx⟩
  have hlen:=wN ns i k
  have T3:=Ki ns i k
  have yS:((jQ ns i k).2.length:Int)<1000000:=by omega
  have Wo:((jQ ns i k).1.length:Int)<1000000:=by omega
  by_cases bA:(k:Int)<ns.length
  ·have hw:IntKind.i64.wrap ((k:Int)+1)=((k+1:Nat):Int):=by rw[Hi _ (by omega) (by omega)];simp
   have k0:(0:Int)≤k:=by omega
   by_cases Cu:tW ns i k=true
   ·have hs:jQ ns i (k+1)=((jQ ns i k).1++[{ nd ns k with up:=if (k:Int)=i then -1 else it (jQ ns i k).2 (nd ns k).up }],(jQ ns i k).2++[((jQ ns i k).1.length:Int)]):=by simp only[jQ,Cu,if_true]
    have upb:(k:Int)≠i→0≤(nd ns k).up∧(nd ns k).up<(jQ ns i k).2.length:=fun fQ=>by
     rcases Nat.eq_zero_or_pos k with h0|h0
     ·subst h0;rw[show ((0:Nat):Int)=0 from rfl,Yz (by omega)] at Cu
      simp at Cu
      omega
     ·have:=hu k (by omega) bA
      rw[hlen];omega
    by_cases VN:(k:Int)=i
    ·have hq:((k:Int) == i)=true:=by simp[VN]
     rw[if_pos VN] at hs;rcases hy with ⟨rfl,hy⟩|⟨g,rfl,hg,hy⟩|⟨g,rfl,hg,hy⟩<;>rcases hx with ⟨rfl,hx⟩|⟨g',rfl,NF,hx⟩
     ·rw[hy,hx] at hs;apply oN ((ns.length-(k+1)))
      ·simp only[ZZ,seval,h2,uZ,h4,pN,h7,Hj,h1,h9,h8,bA,k0,Pq ns hu hn,Cu,hw,hq];rfl
      ·exact⟨k+1,_,_,(by simp only[EV,seval,h2]),(by simp only[EV,seval,uZ]),(by simp only[EV,seval,h4]),(by simp only[EV,seval,pN]),(by simp only[EV,seval,h7]),(by simp only[EV,seval];rfl),(by simp only[EV,seval,h1]),(by simp only[EV,seval]),by omega,by omega,(by simp only[EV,seval];rfl),(by rw[hs];(try simp only[List.nil_append]);exact .inr (.inr ⟨_,rfl,(by simp only[EV,seval]<;>omega),(by simp only[EV,seval]<;>rfl)⟩)),(by rw[hs];(try simp only[List.nil_append]);exact .inr ⟨_,rfl,(by simp only[EV,seval]<;>omega),(by simp only[EV,seval]<;>rfl)⟩)⟩
     ·rw[hy] at hs;apply oN ((ns.length-(k+1)))
      ·simp only[ZZ,seval,h2,uZ,h4,pN,h7,Hj,h1,h9,h8,bA,k0,Pq ns hu hn,Cu,hw,hq,hx,Wo];rfl
      ·exact⟨k+1,_,_,(by simp only[EV,seval,h2]),(by simp only[EV,seval,uZ]),(by simp only[EV,seval,h4]),(by simp only[EV,seval,pN]),(by simp only[EV,seval,h7]),(by simp only[EV,seval];rfl),(by simp only[EV,seval,h1]),(by simp only[EV,seval]),by omega,by omega,(by simp only[EV,seval];rfl),(by rw[hs];(try simp only[List.nil_append]);exact .inr (.inr ⟨_,rfl,(by simp only[EV,seval]<;>omega),(by simp only[EV,seval]<;>rfl)⟩)),(by rw[hs];(try simp only[List.nil_append]);exact .inr ⟨_,rfl,(by simp only[EV,seval]<;>omega),(by simp only[EV,seval]<;>rfl)⟩)⟩
     ·rw[hx] at hs;apply oN ((ns.length-(k+1)))
      ·simp only[ZZ,seval,h2,uZ,h4,pN,h7,Hj,h1,h9,h8,bA,k0,Pq ns hu hn,Cu,hw,hq,hy,yS];rfl
      ·exact⟨k+1,_,_,(by simp only[EV,seval,h2]),(by simp only[EV,seval,uZ]),(by simp only[EV,seval,h4]),(by simp only[EV,seval,pN]),(by simp only[EV,seval,h7]),(by simp only[EV,seval];rfl),(by simp only[EV,seval,h1]),(by simp only[EV,seval]),by omega,by omega,(by simp only[EV,seval];rfl),(by rw[hs];(try simp only[List.nil_append]);exact .inr (.inr ⟨_,rfl,(by simp only[EV,seval]<;>omega),(by simp only[EV,seval]<;>rfl)⟩)),(by rw[hs];(try simp only[List.nil_append]);exact .inr ⟨_,rfl,(by simp only[EV,seval]<;>omega),(by simp only[EV,seval]<;>rfl)⟩)⟩
     ·apply oN ((ns.length-(k+1)))
      ·simp only[ZZ,seval,h2,uZ,h4,pN,h7,Hj,h1,h9,h8,bA,k0,Pq ns hu hn,Cu,hw,hq,hy,yS,hx,Wo];rfl
      ·exact⟨k+1,_,_,(by simp only[EV,seval,h2]),(by simp only[EV,seval,uZ]),(by simp only[EV,seval,h4]),(by simp only[EV,seval,pN]),(by simp only[EV,seval,h7]),(by simp only[EV,seval];rfl),(by simp only[EV,seval,h1]),(by simp only[EV,seval]),by omega,by omega,(by simp only[EV,seval];rfl),(by rw[hs];(try simp only[List.nil_append]);exact .inr (.inr ⟨_,rfl,(by simp only[EV,seval]<;>omega),(by simp only[EV,seval]<;>rfl)⟩)),(by rw[hs];(try simp only[List.nil_append]);exact .inr ⟨_,rfl,(by simp only[EV,seval]<;>omega),(by simp only[EV,seval]<;>rfl)⟩)⟩
     ·rw[hx] at hs;apply oN ((ns.length-(k+1)))
      ·simp only[ZZ,seval,h2,uZ,h4,pN,h7,Hj,h1,h9,h8,bA,k0,Pq ns hu hn,Cu,hw,hq,hy,yS];rfl
      ·exact⟨k+1,_,_,(by simp only[EV,seval,h2]),(by simp only[EV,seval,uZ]),(by simp only[EV,seval,h4]),(by simp only[EV,seval,pN]),(by simp only[EV,seval,h7]),(by simp only[EV,seval];rfl),(by simp only[EV,seval,h1]),(by simp only[EV,seval]),by omega,by omega,(by simp only[EV,seval];rfl),(by rw[hs];(try simp only[List.nil_append]);exact .inr (.inr ⟨_,rfl,(by simp only[EV,seval]<;>omega),(by simp only[EV,seval]<;>rfl)⟩)),(by rw[hs];(try simp only[List.nil_append]);exact .inr ⟨_,rfl,(by simp only[EV,seval]<;>omega),(by simp only[EV,seval]<;>rfl)⟩)⟩
     ·apply oN ((ns.length-(k+1)))
      ·simp only[ZZ,seval,h2,uZ,h4,pN,h7,Hj,h1,h9,h8,bA,k0,Pq ns hu hn,Cu,hw,hq,hy,yS,hx,Wo];rfl
      ·exact⟨k+1,_,_,(by simp only[EV,seval,h2]),(by simp only[EV,seval,uZ]),(by simp only[EV,seval,h4]),(by simp only[EV,seval,pN]),(by simp only[EV,seval,h7]),(by simp only[EV,seval];rfl),(by simp only[EV,seval,h1]),(by simp only[EV,seval]),by omega,by omega,(by simp only[EV,seval];rfl),(by rw[hs];(try simp only[List.nil_append]);exact .inr (.inr ⟨_,rfl,(by simp only[EV,seval]<;>omega),(by simp only[EV,seval]<;>rfl)⟩)),(by rw[hs];(try simp only[List.nil_append]);exact .inr ⟨_,rfl,(by simp only[EV,seval]<;>omega),(by simp only[EV,seval]<;>rfl)⟩)⟩
    ·have hq:((k:Int) == i)=false:=by simp[VN]
     obtain⟨u0,u1⟩:=upb VN
     rw[if_neg VN] at hs;rcases hy with ⟨rfl,hy⟩|⟨g,rfl,hg,hy⟩|⟨g,rfl,hg,hy⟩<;>rcases hx with ⟨rfl,hx⟩|⟨g',rfl,NF,hx⟩
     ·exfalso;rw[hy] at u1;simp at u1;omega
     ·exfalso;rw[hy] at u1;simp at u1;omega
     ·rw[hx] at hs;apply oN ((ns.length-(k+1)))
      ·simp only[ZZ,seval,h2,uZ,h4,pN,h7,Hj,h1,h9,h8,bA,k0,Pq ns hu hn,Cu,hw,hq,u0,u1,hy,yS];rfl
      ·exact⟨k+1,_,_,(by simp only[EV,seval,h2]),(by simp only[EV,seval,uZ]),(by simp only[EV,seval,h4]),(by simp only[EV,seval,pN]),(by simp only[EV,seval,h7]),(by simp only[EV,seval];rfl),(by simp only[EV,seval,h1]),(by simp only[EV,seval]),by omega,by omega,(by simp only[EV,seval];rfl),(by rw[hs];(try simp only[List.nil_append]);exact .inr (.inr ⟨_,rfl,(by simp only[EV,seval]<;>omega),(by simp only[EV,seval]<;>rfl)⟩)),(by rw[hs];(try simp only[List.nil_append]);exact .inr ⟨_,rfl,(by simp only[EV,seval]<;>omega),(by simp only[EV,seval]<;>rfl)⟩)⟩
     ·apply oN ((ns.length-(k+1)))
      ·simp only[ZZ,seval,h2,uZ,h4,pN,h7,Hj,h1,h9,h8,bA,k0,Pq ns hu hn,Cu,hw,hq,u0,u1,hy,yS,hx,Wo];rfl
      ·exact⟨k+1,_,_,(by simp only[EV,seval,h2]),(by simp only[EV,seval,uZ]),(by simp only[EV,seval,h4]),(by simp only[EV,seval,pN]),(by simp only[EV,seval,h7]),(by simp only[EV,seval];rfl),(by simp only[EV,seval,h1]),(by simp only[EV,seval]),by omega,by omega,(by simp only[EV,seval];rfl),(by rw[hs];(try simp only[List.nil_append]);exact .inr (.inr ⟨_,rfl,(by simp only[EV,seval]<;>omega),(by simp only[EV,seval]<;>rfl)⟩)),(by rw[hs];(try simp only[List.nil_append]);exact .inr ⟨_,rfl,(by simp only[EV,seval]<;>omega),(by simp only[EV,seval]<;>rfl)⟩)⟩
     ·rw[hx] at hs;apply oN ((ns.length-(k+1)))
      ·simp only[ZZ,seval,h2,uZ,h4,pN,h7,Hj,h1,h9,h8,bA,k0,Pq ns hu hn,Cu,hw,hq,u0,u1,hy,yS];rfl
      ·exact⟨k+1,_,_,(by simp only[EV,seval,h2]),(by simp only[EV,seval,uZ]),(by simp only[EV,seval,h4]),(by simp only[EV,seval,pN]),(by simp only[EV,seval,h7]),(by simp only[EV,seval];rfl),(by simp only[EV,seval,h1]),(by simp only[EV,seval]),by omega,by omega,(by simp only[EV,seval];rfl),(by rw[hs];(try simp only[List.nil_append]);exact .inr (.inr ⟨_,rfl,(by simp only[EV,seval]<;>omega),(by simp only[EV,seval]<;>rfl)⟩)),(by rw[hs];(try simp only[List.nil_append]);exact .inr ⟨_,rfl,(by simp only[EV,seval]<;>omega),(by simp only[EV,seval]<;>rfl)⟩)⟩
     ·apply oN ((ns.length-(k+1)))
      ·simp only[ZZ,seval,h2,uZ,h4,pN,h7,Hj,h1,h9,h8,bA,k0,Pq ns hu hn,Cu,hw,hq,u0,u1,hy,yS,hx,Wo];rfl
      ·exact⟨k+1,_,_,(by simp only[EV,seval,h2]),(by simp only[EV,seval,uZ]),(by simp only[EV,seval,h4]),(by simp only[EV,seval,pN]),(by simp only[EV,seval,h7]),(by simp only[EV,seval];rfl),(by simp only[EV,seval,h1]),(by simp only[EV,seval]),by omega,by omega,(by simp only[EV,seval];rfl),(by rw[hs];(try simp only[List.nil_append]);exact .inr (.inr ⟨_,rfl,(by simp only[EV,seval]<;>omega),(by simp only[EV,seval]<;>rfl)⟩)),(by rw[hs];(try simp only[List.nil_append]);exact .inr ⟨_,rfl,(by simp only[EV,seval]<;>omega),(by simp only[EV,seval]<;>rfl)⟩)⟩
   ·have Za:tW ns i k=false:=by simpa using Cu
    have hs:jQ ns i (k+1)=((jQ ns i k).1,(jQ ns i k).2++[-1]):=by simp[jQ,Za]
    rcases hy with ⟨rfl,hy⟩|⟨g,rfl,hg,hy⟩|⟨g,rfl,hg,hy⟩<;>rcases hx with ⟨rfl,hx⟩|⟨g',rfl,NF,hx⟩
    ·rw[hy,hx] at hs;apply oN ((ns.length-(k+1)))
     ·simp only[ZZ,seval,h2,uZ,h4,pN,h7,Hj,h1,h9,h8,bA,k0,Pq ns hu hn,Za,hw];rfl
     ·exact⟨k+1,_,_,(by simp only[EV,seval,h2]),(by simp only[EV,seval,uZ]),(by simp only[EV,seval,h4]),(by simp only[EV,seval,pN]),(by simp only[EV,seval,h7]),(by simp only[EV,seval,Hj];rfl),(by simp only[EV,seval,h1]),(by simp only[EV,seval]),by omega,by omega,(by simp only[EV,seval];rfl),(by rw[hs];(try simp only[List.nil_append]);exact .inr (.inl ⟨_,rfl,(by simp only[EV,seval]<;>omega),(by simp only[EV,seval]<;>rfl)⟩)),(by rw[hs];exact .inl ⟨rfl,rfl⟩)⟩
    ·rw[hy] at hs;apply oN ((ns.length-(k+1)))
     ·simp only[ZZ,seval,h2,uZ,h4,pN,h7,Hj,h1,h9,h8,bA,k0,Pq ns hu hn,Za,hw,hx,Wo];rfl
     ·exact⟨k+1,_,_,(by simp only[EV,seval,h2]),(by simp only[EV,seval,uZ]),(by simp only[EV,seval,h4]),(by simp only[EV,seval,pN]),(by simp only[EV,seval,h7]),(by simp only[EV,seval,Hj];rfl),(by simp only[EV,seval,h1]),(by simp only[EV,seval]),by omega,by omega,(by simp only[EV,seval];rfl),(by rw[hs];(try simp only[List.nil_append]);exact .inr (.inl ⟨_,rfl,(by simp only[EV,seval]<;>omega),(by simp only[EV,seval]<;>rfl)⟩)),(by rw[hs];exact .inr ⟨_,rfl,(by simp only[EV,seval]<;>omega),(by simp only[EV,seval,hx])⟩)⟩
    ·rw[hx] at hs;apply oN ((ns.length-(k+1)))
     ·simp only[ZZ,seval,h2,uZ,h4,pN,h7,Hj,h1,h9,h8,bA,k0,Pq ns hu hn,Za,hw,hy,yS];rfl
     ·exact⟨k+1,_,_,(by simp only[EV,seval,h2]),(by simp only[EV,seval,uZ]),(by simp only[EV,seval,h4]),(by simp only[EV,seval,pN]),(by simp only[EV,seval,h7]),(by simp only[EV,seval,Hj];rfl),(by simp only[EV,seval,h1]),(by simp only[EV,seval]),by omega,by omega,(by simp only[EV,seval];rfl),(by rw[hs];(try simp only[List.nil_append]);exact .inr (.inl ⟨_,rfl,(by simp only[EV,seval]<;>omega),(by simp only[EV,seval]<;>rfl)⟩)),(by rw[hs];exact .inl ⟨rfl,rfl⟩)⟩
    ·apply oN ((ns.length-(k+1)))
     ·simp only[ZZ,seval,h2,uZ,h4,pN,h7,Hj,h1,h9,h8,bA,k0,Pq ns hu hn,Za,hw,hy,yS,hx,Wo];rfl
     ·exact⟨k+1,_,_,(by simp only[EV,seval,h2]),(by simp only[EV,seval,uZ]),(by simp only[EV,seval,h4]),(by simp only[EV,seval,pN]),(by simp only[EV,seval,h7]),(by simp only[EV,seval,Hj];rfl),(by simp only[EV,seval,h1]),(by simp only[EV,seval]),by omega,by omega,(by simp only[EV,seval];rfl),(by rw[hs];(try simp only[List.nil_append]);exact .inr (.inl ⟨_,rfl,(by simp only[EV,seval]<;>omega),(by simp only[EV,seval]<;>rfl)⟩)),(by rw[hs];exact .inr ⟨_,rfl,(by simp only[EV,seval]<;>omega),(by simp only[EV,seval,hx])⟩)⟩
    ·rw[hx] at hs;apply oN ((ns.length-(k+1)))
     ·simp only[ZZ,seval,h2,uZ,h4,pN,h7,Hj,h1,h9,h8,bA,k0,Pq ns hu hn,Za,hw,hy,yS];rfl
     ·exact⟨k+1,_,_,(by simp only[EV,seval,h2]),(by simp only[EV,seval,uZ]),(by simp only[EV,seval,h4]),(by simp only[EV,seval,pN]),(by simp only[EV,seval,h7]),(by simp only[EV,seval,Hj];rfl),(by simp only[EV,seval,h1]),(by simp only[EV,seval]),by omega,by omega,(by simp only[EV,seval];rfl),(by rw[hs];(try simp only[List.nil_append]);exact .inr (.inl ⟨_,rfl,(by simp only[EV,seval]<;>omega),(by simp only[EV,seval]<;>rfl)⟩)),(by rw[hs];exact .inl ⟨rfl,rfl⟩)⟩
    ·apply oN ((ns.length-(k+1)))
     ·simp only[ZZ,seval,h2,uZ,h4,pN,h7,Hj,h1,h9,h8,bA,k0,Pq ns hu hn,Za,hw,hy,yS,hx,Wo];rfl
     ·exact⟨k+1,_,_,(by simp only[EV,seval,h2]),(by simp only[EV,seval,uZ]),(by simp only[EV,seval,h4]),(by simp only[EV,seval,pN]),(by simp only[EV,seval,h7]),(by simp only[EV,seval,Hj];rfl),(by simp only[EV,seval,h1]),(by simp only[EV,seval]),by omega,by omega,(by simp only[EV,seval];rfl),(by rw[hs];(try simp only[List.nil_append]);exact .inr (.inl ⟨_,rfl,(by simp only[EV,seval]<;>omega),(by simp only[EV,seval]<;>rfl)⟩)),(by rw[hs];exact .inr ⟨_,rfl,(by simp only[EV,seval]<;>omega),(by simp only[EV,seval,hx])⟩)⟩
  ·have Bu:k=ns.length:=by omega
   subst Bu;apply oT (.exit 0)
   ·simp only[ZZ,seval,h2,uZ,h4,pN,h7,Hj,h1,h9,h8,bA];rfl
   ·exact⟨rfl,x,y,(by simp only[EV,seval,h4]),(by simp only[EV,seval,pN]),(by simp only[EV,seval,h7]),(by simp only[EV,seval,Hj]),(by simp only[EV,seval,h8]),hy,hx⟩
 case start=>exact⟨0,_,_,(by simp only[EV,seval]),(by simp only[EV,seval]),(by simp only[EV,seval]),(by simp only[EV,seval]),(by simp only[EV,seval]),(by simp only[EV,seval]<;>rfl),(by simp only[EV,seval]),(by simp only[EV,seval]<;>rfl),by omega,by omega,(by simp only[EV,seval]<;>rfl),.inl ⟨rfl,rfl⟩,.inl ⟨rfl,rfl⟩⟩
 case rest =>
  rintro e st ⟨rfl,x,y,h4,pN,h7,Hj,h8,hy,hx⟩
  have hlen:=wN ns i ns.length
  have fQ:=VM ns hu i0 i1
  rcases hy with ⟨rfl,hy⟩|⟨g,rfl,hg,hy⟩|⟨g,rfl,hg,hy⟩<;>rcases hx with ⟨rfl,hx⟩|⟨g',rfl,NF,hx⟩
  ·exact absurd hx fQ
  ·rw[hy] at hlen;simp at hlen;omega
  ·exact absurd hx fQ
  ·simp only[ZZ,seval,h4,pN,h7,Hj,h8];exact fN rfl (by simp only[bY,ZZ,seval,h4,pN,h7,Hj,h8];rfl) (by simp only[bY,EV,seval]<;>rfl) (by simp only[bY,EV,seval]<;>rfl) (by simp only[EV,seval,hx,Option.map_some]<;>rfl) (by simp only[EV,seval,hy]) (by simp only[EV,seval])
  ·exact absurd hx fQ
  ·simp only[ZZ,seval,h4,pN,h7,Hj,h8];exact fN rfl (by simp only[bY,ZZ,seval,h4,pN,h7,Hj,h8];rfl) (by simp only[bY,EV,seval]<;>rfl) (by simp only[bY,EV,seval]<;>rfl) (by simp only[EV,seval,hx,Option.map_some]<;>rfl) (by simp only[EV,seval,hy]) (by simp only[EV,seval])
theorem E7 {P:Program} {b:Code} {st:St} {k:Ex × St→Option (Ex × St)} {R:Ex→St→Prop} (Inv:Nat→St→Prop) (Q:Ex→St→Prop) (n:Nat)
 (step:∀n st,Inv n st→∃e st',Aa P b st=some (e,st')∧((e=.normal∧∃m,m<n∧Inv m st')∨(e≠.normal∧Q e st')))
 (start:Inv n st) (rest:∀e st',Q e st'→∃e' T4,k (e,st')=some (e',T4)∧R e' T4):∃e' T4,cT (Aa P (.loop b) st) k=some (e',T4)∧R e' T4:=by
 obtain⟨e,s1,h1,h2,h3⟩:=Sx Inv Q step n st start
 rw[h1];exact rest e s1 h3
theorem T5 {x:Option (Ex × St)} {st':St} {n:Nat} {Inv:Nat→St→Prop} {Q:Ex→St→Prop} (h:x=some (.normal,st')) (m:Nat) (hm:m<n) (hi:Inv m st') :
 ∃e st',x=some (e,st')∧((e=.normal∧∃m,m<n∧Inv m st')∨(e≠.normal∧Q e st')):=⟨_,_,h,.inl ⟨rfl,m,hm,hi⟩⟩
theorem E9 {call:Nat→List AV→Option AV} {ops:Array Oper} {st:St} {T:Nat} {pos:String} {eW:Array Edge} (d:Nat) (x y:Operand) {a b:Int} (h1:st.ev x=.v (.int .i64 a)) (h2:st.ev y=.v (.int .i64 b)):cH Tryz.prog call ops ⟨some d,.buildSlice 22 2 #[(0,x),(1,y)],T,pos,eW,none⟩ st =
 some ((st.new d (.row 3 1 2 (aK [a,b]))).put (some d) (.own d (st.aU d))):=by
 rw[lA];simp[Nd,ze3,cT,h1,h2,AV.jE,Value.oneCell',gT,AV.cells,List.range,List.range.loop,aK,qR]
theorem Fx {call:Nat→List AV→Option AV} {ops:Array Oper} {st:St} {T:Nat} {pos:String} {eW:Array Edge} (d:Nat) (x y:Operand):cH Tryz.prog call ops ⟨some d,.buildSlice 22 2 #[(0,x),(1,y)],T,pos,eW,none⟩ st =
 Nf (st.ev x) (fun a=>Nf (st.ev y) (fun b=>some ((st.new d (.row 3 1 2 (aK [a,b]))).put (some d) (.own d (st.aU d)))) (cH Tryz.prog call ops ⟨some d,.buildSlice 22 2 #[(0,x),(1,y)],T,pos,eW,none⟩ st))
  (cH Tryz.prog call ops ⟨some d,.buildSlice 22 2 #[(0,x),(1,y)],T,pos,eW,none⟩ st):=by
 unfold Nf;split
 ·rename_i a h1;try dsimp only
  split
  ·rename_i b h2;exact E9 d x y h1 h2
  ·rfl
 ·rfl
def Hk (ns:List Node) (i:Int):Nat→List Int
 | 0=>[]
 | k+1=>if tW ns i k=true then Hk ns i k++[(k:Int)] else Hk ns i k
theorem Xr (ns:List Node) (i:Int):∀k,(Hk ns i k).length≤k
 | 0=>Nat.le_refl _
 | k+1=>by
   have:=Xr ns i k
   simp only[Hk];split
   ·simp;omega
   ·omega
theorem VO {ns:List Node} (hu:gK ns) {i:Int} (i0:0≤i) (i1:i<ns.length):∀k:Nat,i<k→Hk ns i k≠[]
 | 0,h=>by omega
 | k+1,h=>by
   simp only[Hk];by_cases hk:i=k
   ·rw[if_pos (by unfold tW;rw[← hk];exact decide_eq_true (vK hu i0 i1))];simp
   ·have:=VO hu i0 i1 k (by omega)
    split
    ·simp
    ·exact this
theorem o6 (ns:List Node) (i x:Int):∀k:Nat,x∈Hk ns i k↔(0≤x∧x<k)∧tW ns i x=true
 | 0=>by simp[Hk];intro h h';omega
 | k+1=>by
   have ih:=o6 ns i x k
   simp only[Hk];split
   ·rename_i h;rw[List.mem_append,ih,List.mem_singleton];constructor
    ·rintro (⟨h1,h2⟩|rfl)
     ·exact⟨by omega,h2⟩
     ·exact⟨by omega,h⟩
    ·rintro⟨h1,h2⟩
     by_cases hk:x=k
     ·exact .inr hk
     ·exact .inl ⟨by omega,h2⟩
   ·rename_i h;rw[ih];constructor
    ·rintro⟨h1,h2⟩;exact⟨by omega,h2⟩
    ·rintro⟨h1,h2⟩
     by_cases hk:x=k
     ·subst hk;exact absurd h2 h
     ·exact⟨by omega,h2⟩
theorem aPG (ns:List Node) (hu:gK ns) (hr:(nd ns 0).up<0) (hn:(ns.length:Int)<1000000) (i:Int) (i0:0≤i) (i1:i<ns.length):aB Tryz.prog 125 [.agg (cO ⟨ns⟩),.v (.int .i64 i)] =
 some (.eG [.agg (cO ⟨(jQ ns i ns.length).1⟩),.sl (jQ ns i ns.length).2.length (aK (jQ ns i ns.length).2),.v (.int .i64 0)]):=by
 have hi0:decide (i<0)=false:=by simp;omega
 have hi1:decide ((ns.length:Int)≤i)=false:=by simp;omega
 rw[cL Tryz.func125 rfl aKd rfl];simp only[ZZ,seval,hi0,hi1];refine kJ (fun n st=>∃(k:Nat) (x y:AV),st.env 4=.ptr 4 0 0∧st.heap 4 0=some (.cells [x])∧st.env 1=.v (.int .i64 i)∧st.env 21=.sl ns.length (bU ns)∧st.env 22=.v (.int .i64 ns.length)∧st.env 23=.v (.int .i64 k) ∧
  k≤ns.length∧n=ns.length-k∧st.env 5=y∧aCA st 50 58 y (jQ ns i k).2∧aCB st 63 x (jQ ns i k).1)
  (fun e st=>e=.exit 0∧∃(x y:AV),st.env 4=.ptr 4 0 0∧st.heap 4 0=some (.cells [x])∧st.env 5=y∧aCA st 50 58 y (jQ ns i ns.length).2∧aCB st 63 x (jQ ns i ns.length).1) ns.length ?step ?start ?rest
 case step =>
  rintro n st ⟨k,x,y,h4,pN,h1,Bg,Cv,Zb,hk,Hu,h5,hy,hx⟩
  have hlen:=wN ns i k
  have T3:=Ki ns i k
  have yS:((jQ ns i k).2.length:Int)<1000000:=by omega
  have Wo:((jQ ns i k).1.length:Int)<1000000:=by omega
  by_cases bA:(k:Int)<ns.length
  ·have hw:IntKind.i64.wrap ((k:Int)+1)=((k+1:Nat):Int):=by rw[Hi _ (by omega) (by omega)];simp
   have k0:(0:Int)≤k:=by omega
   have Vn:=Ih hu i0 i1
   by_cases VN:(k:Int)=i
   ·have hq:((k:Int) != i)=false:=by simp[VN]
    have hs:jQ ns i (k+1)=((jQ ns i k).1++[{ nd ns k with up:=-1 }],(jQ ns i k).2++[((jQ ns i k).1.length:Int)]):=by simp only[jQ,VN,Vn,if_true]
    rcases hy with ⟨rfl,hy⟩|⟨g,rfl,hg,hy⟩|⟨g,rfl,hg,hy⟩<;>rcases hx with ⟨rfl,hx⟩|⟨g',rfl,NF,hx⟩
    ·rw[hy,hx] at hs;apply oN ((ns.length-(k+1)))
     ·simp only[ZZ,seval,h4,pN,h1,Bg,Cv,Zb,h5,bA,k0,hw,hq];rfl
     ·exact⟨k+1,_,_,(by simp only[EV,seval,h4]),(by simp only[EV,seval]<;>rfl),(by simp only[EV,seval,h1]),(by simp only[EV,seval,Bg]),(by simp only[EV,seval,Cv]),(by simp only[EV,seval]),by omega,by omega,(by simp only[EV,seval]<;>rfl),(by rw[hs];(try simp only[List.nil_append]);exact .inr (.inr ⟨_,rfl,(by simp only[EV,seval]<;>omega),(by simp only[EV,seval]<;>rfl)⟩)),(by rw[hs];(try simp only[List.nil_append]);exact .inr ⟨_,rfl,(by simp only[EV,seval]<;>omega),(by simp only[EV,seval]<;>rfl)⟩)⟩
    ·rw[hy] at hs;apply oN ((ns.length-(k+1)))
     ·simp only[ZZ,seval,h4,pN,h1,Bg,Cv,Zb,h5,bA,k0,hw,hq,hx,Wo];rfl
     ·exact⟨k+1,_,_,(by simp only[EV,seval,h4]),(by simp only[EV,seval]<;>rfl),(by simp only[EV,seval,h1]),(by simp only[EV,seval,Bg]),(by simp only[EV,seval,Cv]),(by simp only[EV,seval]),by omega,by omega,(by simp only[EV,seval]<;>rfl),(by rw[hs];(try simp only[List.nil_append]);exact .inr (.inr ⟨_,rfl,(by simp only[EV,seval]<;>omega),(by simp only[EV,seval]<;>rfl)⟩)),(by rw[hs];(try simp only[List.nil_append]);exact .inr ⟨_,rfl,(by simp only[EV,seval]<;>omega),(by simp only[EV,seval]<;>rfl)⟩)⟩
    ·rw[hx] at hs;apply oN ((ns.length-(k+1)))
     ·simp only[ZZ,seval,h4,pN,h1,Bg,Cv,Zb,h5,bA,k0,hw,hq,hy,yS];rfl
     ·exact⟨k+1,_,_,(by simp only[EV,seval,h4]),(by simp only[EV,seval]<;>rfl),(by simp only[EV,seval,h1]),(by simp only[EV,seval,Bg]),(by simp only[EV,seval,Cv]),(by simp only[EV,seval]),by omega,by omega,(by simp only[EV,seval]<;>rfl),(by rw[hs];(try simp only[List.nil_append]);exact .inr (.inr ⟨_,rfl,(by simp only[EV,seval]<;>omega),(by simp only[EV,seval]<;>rfl)⟩)),(by rw[hs];(try simp only[List.nil_append]);exact .inr ⟨_,rfl,(by simp only[EV,seval]<;>omega),(by simp only[EV,seval]<;>rfl)⟩)⟩
    ·apply oN ((ns.length-(k+1)))
     ·simp only[ZZ,seval,h4,pN,h1,Bg,Cv,Zb,h5,bA,k0,hw,hq,hy,yS,hx,Wo];rfl
     ·exact⟨k+1,_,_,(by simp only[EV,seval,h4]),(by simp only[EV,seval]<;>rfl),(by simp only[EV,seval,h1]),(by simp only[EV,seval,Bg]),(by simp only[EV,seval,Cv]),(by simp only[EV,seval]),by omega,by omega,(by simp only[EV,seval]<;>rfl),(by rw[hs];(try simp only[List.nil_append]);exact .inr (.inr ⟨_,rfl,(by simp only[EV,seval]<;>omega),(by simp only[EV,seval]<;>rfl)⟩)),(by rw[hs];(try simp only[List.nil_append]);exact .inr ⟨_,rfl,(by simp only[EV,seval]<;>omega),(by simp only[EV,seval]<;>rfl)⟩)⟩
    ·rw[hx] at hs;apply oN ((ns.length-(k+1)))
     ·simp only[ZZ,seval,h4,pN,h1,Bg,Cv,Zb,h5,bA,k0,hw,hq,hy,yS];rfl
     ·exact⟨k+1,_,_,(by simp only[EV,seval,h4]),(by simp only[EV,seval]<;>rfl),(by simp only[EV,seval,h1]),(by simp only[EV,seval,Bg]),(by simp only[EV,seval,Cv]),(by simp only[EV,seval]),by omega,by omega,(by simp only[EV,seval]<;>rfl),(by rw[hs];(try simp only[List.nil_append]);exact .inr (.inr ⟨_,rfl,(by simp only[EV,seval]<;>omega),(by simp only[EV,seval]<;>rfl)⟩)),(by rw[hs];(try simp only[List.nil_append]);exact .inr ⟨_,rfl,(by simp only[EV,seval]<;>omega),(by simp only[EV,seval]<;>rfl)⟩)⟩
    ·apply oN ((ns.length-(k+1)))
     ·simp only[ZZ,seval,h4,pN,h1,Bg,Cv,Zb,h5,bA,k0,hw,hq,hy,yS,hx,Wo];rfl
     ·exact⟨k+1,_,_,(by simp only[EV,seval,h4]),(by simp only[EV,seval]<;>rfl),(by simp only[EV,seval,h1]),(by simp only[EV,seval,Bg]),(by simp only[EV,seval,Cv]),(by simp only[EV,seval]),by omega,by omega,(by simp only[EV,seval]<;>rfl),(by rw[hs];(try simp only[List.nil_append]);exact .inr (.inr ⟨_,rfl,(by simp only[EV,seval]<;>omega),(by simp only[EV,seval]<;>rfl)⟩)),(by rw[hs];(try simp only[List.nil_append]);exact .inr ⟨_,rfl,(by simp only[EV,seval]<;>omega),(by simp only[EV,seval]<;>rfl)⟩)⟩
   ·have hq:((k:Int) != i)=true:=by simp[VN]
    rcases Nat.eq_zero_or_pos k with rG|rG
    ·have Pb:decide (0≤(nd ns k).up)=false:=by rw[rG];simp;omega
     have Cu:tW ns i k=false:=by rw[rG,show ((0:Nat):Int)=0 from rfl,Yz (by omega)];simp;omega
     have hs:jQ ns i (k+1)=((jQ ns i k).1,(jQ ns i k).2++[-1]):=by simp[jQ,Cu]
     rcases hy with ⟨rfl,hy⟩|⟨g,rfl,hg,hy⟩|⟨g,rfl,hg,hy⟩<;>rcases hx with ⟨rfl,hx⟩|⟨g',rfl,NF,hx⟩
     ·rw[hy,hx] at hs;apply oN ((ns.length-(k+1)))
      ·simp only[ZZ,seval,h4,pN,h1,Bg,Cv,Zb,h5,bA,k0,hw,hq,Pb];rfl
      ·exact⟨k+1,_,_,(by simp only[EV,seval,h4]),(by simp only[EV,seval,pN]<;>rfl),(by simp only[EV,seval,h1]),(by simp only[EV,seval,Bg]),(by simp only[EV,seval,Cv]),(by simp only[EV,seval]),by omega,by omega,(by simp only[EV,seval]<;>rfl),(by rw[hs];(try simp only[List.nil_append]);exact .inr (.inl ⟨_,rfl,(by simp only[EV,seval]<;>omega),(by simp only[EV,seval]<;>rfl)⟩)),(by rw[hs];exact .inl ⟨rfl,rfl⟩)⟩
     ·rw[hy] at hs;apply oN ((ns.length-(k+1)))
      ·simp only[ZZ,seval,h4,pN,h1,Bg,Cv,Zb,h5,bA,k0,hw,hq,Pb,hx,Wo];rfl
      ·exact⟨k+1,_,_,(by simp only[EV,seval,h4]),(by simp only[EV,seval,pN]<;>rfl),(by simp only[EV,seval,h1]),(by simp only[EV,seval,Bg]),(by simp only[EV,seval,Cv]),(by simp only[EV,seval]),by omega,by omega,(by simp only[EV,seval]<;>rfl),(by rw[hs];(try simp only[List.nil_append]);exact .inr (.inl ⟨_,rfl,(by simp only[EV,seval]<;>omega),(by simp only[EV,seval]<;>rfl)⟩)),(by rw[hs];exact .inr ⟨_,rfl,(by simp only[EV,seval]<;>omega),(by simp only[EV,seval,hx])⟩)⟩
     ·rw[hx] at hs;apply oN ((ns.length-(k+1)))
      ·simp only[ZZ,seval,h4,pN,h1,Bg,Cv,Zb,h5,bA,k0,hw,hq,Pb,hy,yS];rfl
      ·exact⟨k+1,_,_,(by simp only[EV,seval,h4]),(by simp only[EV,seval,pN]<;>rfl),(by simp only[EV,seval,h1]),(by simp only[EV,seval,Bg]),(by simp only[EV,seval,Cv]),(by simp only[EV,seval]),by omega,by omega,(by simp only[EV,seval]<;>rfl),(by rw[hs];(try simp only[List.nil_append]);exact .inr (.inl ⟨_,rfl,(by simp only[EV,seval]<;>omega),(by simp only[EV,seval]<;>rfl)⟩)),(by rw[hs];exact .inl ⟨rfl,rfl⟩)⟩
     ·apply oN ((ns.length-(k+1)))
      ·simp only[ZZ,seval,h4,pN,h1,Bg,Cv,Zb,h5,bA,k0,hw,hq,Pb,hy,yS,hx,Wo];rfl
      ·exact⟨k+1,_,_,(by simp only[EV,seval,h4]),(by simp only[EV,seval,pN]<;>rfl),(by simp only[EV,seval,h1]),(by simp only[EV,seval,Bg]),(by simp only[EV,seval,Cv]),(by simp only[EV,seval]),by omega,by omega,(by simp only[EV,seval]<;>rfl),(by rw[hs];(try simp only[List.nil_append]);exact .inr (.inl ⟨_,rfl,(by simp only[EV,seval]<;>omega),(by simp only[EV,seval]<;>rfl)⟩)),(by rw[hs];exact .inr ⟨_,rfl,(by simp only[EV,seval]<;>omega),(by simp only[EV,seval,hx])⟩)⟩
     ·rw[hx] at hs;apply oN ((ns.length-(k+1)))
      ·simp only[ZZ,seval,h4,pN,h1,Bg,Cv,Zb,h5,bA,k0,hw,hq,Pb,hy,yS];rfl
      ·exact⟨k+1,_,_,(by simp only[EV,seval,h4]),(by simp only[EV,seval,pN]<;>rfl),(by simp only[EV,seval,h1]),(by simp only[EV,seval,Bg]),(by simp only[EV,seval,Cv]),(by simp only[EV,seval]),by omega,by omega,(by simp only[EV,seval]<;>rfl),(by rw[hs];(try simp only[List.nil_append]);exact .inr (.inl ⟨_,rfl,(by simp only[EV,seval]<;>omega),(by simp only[EV,seval]<;>rfl)⟩)),(by rw[hs];exact .inl ⟨rfl,rfl⟩)⟩
     ·apply oN ((ns.length-(k+1)))
      ·simp only[ZZ,seval,h4,pN,h1,Bg,Cv,Zb,h5,bA,k0,hw,hq,Pb,hy,yS,hx,Wo];rfl
      ·exact⟨k+1,_,_,(by simp only[EV,seval,h4]),(by simp only[EV,seval,pN]<;>rfl),(by simp only[EV,seval,h1]),(by simp only[EV,seval,Bg]),(by simp only[EV,seval,Cv]),(by simp only[EV,seval]),by omega,by omega,(by simp only[EV,seval]<;>rfl),(by rw[hs];(try simp only[List.nil_append]);exact .inr (.inl ⟨_,rfl,(by simp only[EV,seval]<;>omega),(by simp only[EV,seval]<;>rfl)⟩)),(by rw[hs];exact .inr ⟨_,rfl,(by simp only[EV,seval]<;>omega),(by simp only[EV,seval,hx])⟩)⟩
    ·obtain⟨u0,u1'⟩:=hu k (by omega) bA
     have u1:(nd ns k).up<(jQ ns i k).2.length:=by rw[hlen];exact u1'
     have VF:=NT ns i k (nd ns k).up u0 (by omega)
     have hstep:=S9 hu (show (0:Int)<k by omega) bA (Ne.symm VN)
     cases Cu:tW ns i k
     ·have IV:decide (it (jQ ns i k).2 (nd ns k).up<0)=true:=by
       rw[← hstep,Cu] at VF;simp at VF ⊢;exact VF
      have hs:jQ ns i (k+1)=((jQ ns i k).1,(jQ ns i k).2++[-1]):=by simp[jQ,Cu]
      rcases hy with ⟨rfl,hy⟩|⟨g,rfl,hg,hy⟩|⟨g,rfl,hg,hy⟩<;>rcases hx with ⟨rfl,hx⟩|⟨g',rfl,NF,hx⟩
      ·exfalso;rw[hy] at u1;simp at u1;omega
      ·exfalso;rw[hy] at u1;simp at u1;omega
      ·rw[hx] at hs;apply oN ((ns.length-(k+1)))
       ·simp only[ZZ,seval,h4,pN,h1,Bg,Cv,Zb,h5,bA,k0,hw,hq,u0,u1,IV,hy,yS];rfl
       ·exact⟨k+1,_,_,(by simp only[EV,seval,h4]),(by simp only[EV,seval,pN]<;>rfl),(by simp only[EV,seval,h1]),(by simp only[EV,seval,Bg]),(by simp only[EV,seval,Cv]),(by simp only[EV,seval]),by omega,by omega,(by simp only[EV,seval]<;>rfl),(by rw[hs];(try simp only[List.nil_append]);exact .inr (.inl ⟨_,rfl,(by simp only[EV,seval]<;>omega),(by simp only[EV,seval]<;>rfl)⟩)),(by rw[hs];exact .inl ⟨rfl,rfl⟩)⟩
      ·apply oN ((ns.length-(k+1)))
       ·simp only[ZZ,seval,h4,pN,h1,Bg,Cv,Zb,h5,bA,k0,hw,hq,u0,u1,IV,hy,yS,hx,Wo];rfl
       ·exact⟨k+1,_,_,(by simp only[EV,seval,h4]),(by simp only[EV,seval,pN]<;>rfl),(by simp only[EV,seval,h1]),(by simp only[EV,seval,Bg]),(by simp only[EV,seval,Cv]),(by simp only[EV,seval]),by omega,by omega,(by simp only[EV,seval]<;>rfl),(by rw[hs];(try simp only[List.nil_append]);exact .inr (.inl ⟨_,rfl,(by simp only[EV,seval]<;>omega),(by simp only[EV,seval]<;>rfl)⟩)),(by rw[hs];exact .inr ⟨_,rfl,(by simp only[EV,seval]<;>omega),(by simp only[EV,seval,hx])⟩)⟩
      ·rw[hx] at hs;apply oN ((ns.length-(k+1)))
       ·simp only[ZZ,seval,h4,pN,h1,Bg,Cv,Zb,h5,bA,k0,hw,hq,u0,u1,IV,hy,yS];rfl
       ·exact⟨k+1,_,_,(by simp only[EV,seval,h4]),(by simp only[EV,seval,pN]<;>rfl),(by simp only[EV,seval,h1]),(by simp only[EV,seval,Bg]),(by simp only[EV,seval,Cv]),(by simp only[EV,seval]),by omega,by omega,(by simp only[EV,seval]<;>rfl),(by rw[hs];(try simp only[List.nil_append]);exact .inr (.inl ⟨_,rfl,(by simp only[EV,seval]<;>omega),(by simp only[EV,seval]<;>rfl)⟩)),(by rw[hs];exact .inl ⟨rfl,rfl⟩)⟩
      ·apply oN ((ns.length-(k+1)))
       ·simp only[ZZ,seval,h4,pN,h1,Bg,Cv,Zb,h5,bA,k0,hw,hq,u0,u1,IV,hy,yS,hx,Wo];rfl
       ·exact⟨k+1,_,_,(by simp only[EV,seval,h4]),(by simp only[EV,seval,pN]<;>rfl),(by simp only[EV,seval,h1]),(by simp only[EV,seval,Bg]),(by simp only[EV,seval,Cv]),(by simp only[EV,seval]),by omega,by omega,(by simp only[EV,seval]<;>rfl),(by rw[hs];(try simp only[List.nil_append]);exact .inr (.inl ⟨_,rfl,(by simp only[EV,seval]<;>omega),(by simp only[EV,seval]<;>rfl)⟩)),(by rw[hs];exact .inr ⟨_,rfl,(by simp only[EV,seval]<;>omega),(by simp only[EV,seval,hx])⟩)⟩
     ·have IV:decide (it (jQ ns i k).2 (nd ns k).up<0)=false:=by
       rw[← hstep,Cu] at VF;simp at VF ⊢;exact VF
      have hs:jQ ns i (k+1)=((jQ ns i k).1++[{ nd ns k with up:=it (jQ ns i k).2 (nd ns k).up }],(jQ ns i k).2++[((jQ ns i k).1.length:Int)]):=by simp only[jQ,Cu,if_true,if_neg VN]
      rcases hy with ⟨rfl,hy⟩|⟨g,rfl,hg,hy⟩|⟨g,rfl,hg,hy⟩<;>rcases hx with ⟨rfl,hx⟩|⟨g',rfl,NF,hx⟩
      ·exfalso;rw[hy] at u1;simp at u1;omega
      ·exfalso;rw[hy] at u1;simp at u1;omega
      ·rw[hx] at hs;apply oN ((ns.length-(k+1)))
       ·simp only[ZZ,seval,h4,pN,h1,Bg,Cv,Zb,h5,bA,k0,hw,hq,u0,u1,IV,hy,yS];rfl
       ·exact⟨k+1,_,_,(by simp only[EV,seval,h4]),(by simp only[EV,seval]<;>rfl),(by simp only[EV,seval,h1]),(by simp only[EV,seval,Bg]),(by simp only[EV,seval,Cv]),(by simp only[EV,seval]),by omega,by omega,(by simp only[EV,seval]<;>rfl),(by rw[hs];(try simp only[List.nil_append]);exact .inr (.inr ⟨_,rfl,(by simp only[EV,seval]<;>omega),(by simp only[EV,seval]<;>rfl)⟩)),(by rw[hs];(try simp only[List.nil_append]);exact .inr ⟨_,rfl,(by simp only[EV,seval]<;>omega),(by simp only[EV,seval]<;>rfl)⟩)⟩
      ·apply oN ((ns.length-(k+1)))
       ·simp only[ZZ,seval,h4,pN,h1,Bg,Cv,Zb,h5,bA,k0,hw,hq,u0,u1,IV,hy,yS,hx,Wo];rfl
       ·exact⟨k+1,_,_,(by simp only[EV,seval,h4]),(by simp only[EV,seval]<;>rfl),(by simp only[EV,seval,h1]),(by simp only[EV,seval,Bg]),(by simp only[EV,seval,Cv]),(by simp only[EV,seval]),by omega,by omega,(by simp only[EV,seval]<;>rfl),(by rw[hs];(try simp only[List.nil_append]);exact .inr (.inr ⟨_,rfl,(by simp only[EV,seval]<;>omega),(by simp only[EV,seval]<;>rfl)⟩)),(by rw[hs];(try simp only[List.nil_append]);exact .inr ⟨_,rfl,(by simp only[EV,seval]<;>omega),(by simp only[EV,seval]<;>rfl)⟩)⟩
      ·rw[hx] at hs;apply oN ((ns.length-(k+1)))
       ·simp only[ZZ,seval,h4,pN,h1,Bg,Cv,Zb,h5,bA,k0,hw,hq,u0,u1,IV,hy,yS];rfl
       ·exact⟨k+1,_,_,(by simp only[EV,seval,h4]),(by simp only[EV,seval]<;>rfl),(by simp only[EV,seval,h1]),(by simp only[EV,seval,Bg]),(by simp only[EV,seval,Cv]),(by simp only[EV,seval]),by omega,by omega,(by simp only[EV,seval]<;>rfl),(by rw[hs];(try simp only[List.nil_append]);exact .inr (.inr ⟨_,rfl,(by simp only[EV,seval]<;>omega),(by simp only[EV,seval]<;>rfl)⟩)),(by rw[hs];(try simp only[List.nil_append]);exact .inr ⟨_,rfl,(by simp only[EV,seval]<;>omega),(by simp only[EV,seval]<;>rfl)⟩)⟩
      ·apply oN ((ns.length-(k+1)))
       ·simp only[ZZ,seval,h4,pN,h1,Bg,Cv,Zb,h5,bA,k0,hw,hq,u0,u1,IV,hy,yS,hx,Wo];rfl
       ·exact⟨k+1,_,_,(by simp only[EV,seval,h4]),(by simp only[EV,seval]<;>rfl),(by simp only[EV,seval,h1]),(by simp only[EV,seval,Bg]),(by simp only[EV,seval,Cv]),(by simp only[EV,seval]),by omega,by omega,(by simp only[EV,seval]<;>rfl),(by rw[hs];(try simp only[List.nil_append]);exact .inr (.inr ⟨_,rfl,(by simp only[EV,seval]<;>omega),(by simp only[EV,seval]<;>rfl)⟩)),(by rw[hs];(try simp only[List.nil_append]);exact .inr ⟨_,rfl,(by simp only[EV,seval]<;>omega),(by simp only[EV,seval]<;>rfl)⟩)⟩
  ·have Bu:k=ns.length:=by omega
   subst Bu;apply oT (.exit 0)
   ·simp only[ZZ,seval,h4,pN,h1,Bg,Cv,Zb,bA,h5];rfl
   ·exact⟨rfl,x,y,(by simp only[EV,seval,h4]),(by simp only[EV,seval,pN]),(by simp only[EV,seval,h5]),hy,hx⟩
 case start=>exact⟨0,_,_,(by simp only[EV,seval]),(by simp only[EV,seval]<;>rfl),(by simp only[EV,seval]),(by simp only[EV,seval]),(by simp only[EV,seval]),(by simp only[EV,seval]),by omega,by omega,(by simp only[EV,seval]<;>rfl),.inl ⟨rfl,rfl⟩,.inl ⟨rfl,rfl⟩⟩
 case rest =>
  rintro e st ⟨rfl,x,y,h4,pN,h5,hy,hx⟩
  have hlen:=wN ns i ns.length
  have fQ:=VM ns hu i0 i1
  rcases hy with ⟨rfl,hy⟩|⟨g,rfl,hg,hy⟩|⟨g,rfl,hg,hy⟩<;>rcases hx with ⟨rfl,hx⟩|⟨g',rfl,NF,hx⟩
  ·exact absurd hx fQ
  ·rw[hy] at hlen;simp at hlen;omega
  ·exact absurd hx fQ
  ·simp only[ZZ,seval,h4,pN,h5];exact fN rfl (by simp only[bY,ZZ,seval,h4,pN,h5];rfl) (by simp only[bY,EV,seval]<;>rfl) (by simp only[bY,EV,seval]<;>rfl) (by simp only[EV,seval,hx,Option.map_some]<;>rfl) (by simp only[EV,seval,hy]) (by simp only[EV,seval])
  ·exact absurd hx fQ
  ·simp only[ZZ,seval,h4,pN,h5];exact fN rfl (by simp only[bY,ZZ,seval,h4,pN,h5];rfl) (by simp only[bY,EV,seval]<;>rfl) (by simp only[bY,EV,seval]<;>rfl) (by simp only[EV,seval,hx,Option.map_some]<;>rfl) (by simp only[EV,seval,hy]) (by simp only[EV,seval])
def F0 (ns:List Node) (i:Int):AV:=.eG [.agg (cO ⟨(jQ ns i ns.length).1⟩),.sl (jQ ns i ns.length).2.length (aK (jQ ns i ns.length).2),.v (.int .i64 0)]
theorem GM (ns:List Node) (i:Int):Flat (F0 ns i):=.eG _ (mE (mD _) (Sw _) (.v _))
theorem aPI (ns:List Node) (hu:gK ns) (hr:(nd ns 0).up<0) (hn:(ns.length:Int)<1000000) (i:Int) (h:0≤i∧i<ns.length) (st:St) (d:Option Nat):aO (aB Tryz.prog) 125 [.agg (cO ⟨ns⟩),.v (.int .i64 i)] st d=some { dst:=d,val:=F0 ns i }:=bG (bF (mD _) (.v _)) (aPG ns hu hr hn i h.1 h.2) (GM ns i)
theorem k34 (ns:List Node) (hu:gK ns) (hn:(ns.length:Int)<1000000) (i:Int) (h:0≤i∧i<ns.length) (st:St) (d:Option Nat):aO (aB Tryz.prog) 34 [.agg (cO ⟨ns⟩),.v (.int .i64 i)] st d=some { dst:=d,val:=F0 ns i }:=bG (bF (mD _) (.v _)) (c34 ns hu hn i h.1 h.2) (GM ns i)
theorem VP {ns:List Node} (hu:gK ns) {i:Int}:∀k:Nat,k≤ns.length→∀a:Int,0≤a→a<k→tW ns i a=true →
 0≤it (jQ ns i k).2 a∧it (jQ ns i k).2 a<(jQ ns i k).1.length∧nd (jQ ns i k).1 (it (jQ ns i k).2 a)={ nd ns a with up:=if a=i then -1 else it (jQ ns i k).2 (nd ns a).up }
 | 0,_,a,a0,a1,_=>by omega
 | k+1,hk,a,a0,a1,ha=>by
   have hl:=wN ns i k
   have Pb:a≠i→0≤(nd ns a).up∧(nd ns a).up<a:=fun h=>by
    by_cases ha0:a=0
    ·subst ha0;rw[Yz (by omega)] at ha;simp at ha;omega
    ·exact hu a (by omega) (by omega)
   by_cases hak:a<k
   ·obtain⟨h1,h2,h3⟩:=VP hu k (by omega) a a0 hak ha
    simp only[jQ];split
    ·simp only
     rw[kN a0 (by omega),Kj h1 h2,h3]
     refine⟨h1,by simp;omega, ?_⟩
     by_cases GN:a=i
     ·rw[if_pos GN,if_pos GN]
     ·obtain⟨u0,u1⟩:=Pb GN
      rw[if_neg GN,if_neg GN,kN u0 (by omega)]
    ·simp only
     rw[kN a0 (by omega),h3]
     refine⟨h1,h2, ?_⟩
     by_cases GN:a=i
     ·rw[if_pos GN,if_pos GN]
     ·obtain⟨u0,u1⟩:=Pb GN
      rw[if_neg GN,if_neg GN,kN u0 (by omega)]
   ·have hak:a=k:=by omega
    subst hak;simp only[jQ,ha,if_true];rw[vM (by omega),GL rfl]
    refine⟨by omega,by simp<;>omega, ?_⟩
    by_cases GN:(k:Int)=i
    ·rw[if_pos GN,if_pos GN]
    ·obtain⟨u0,u1⟩:=Pb GN
     rw[if_neg GN,if_neg GN,kN u0 (by omega)]
theorem Ng (ns:List Node) (i:Int):∀(d k:Nat) (a:Int),0≤a→a<k→it (jQ ns i (k+d)).2 a=it (jQ ns i k).2 a
 | 0,k,a,_,_=>rfl
 | d+1,k,a,a0,a1=>by
   have ih:=Ng ns i d k a a0 a1
   have hl:=wN ns i (k+d)
   rw[← ih,← Nat.add_assoc];simp only[jQ];split
   ·simp only;rw[kN a0 (by omega)]
   ·simp only;rw[kN a0 (by omega)]
theorem aCC {ns:List Node} {i:Int} {n:Nat} {k:Nat} (hk:k<n) (ha:tW ns i k=true):it (jQ ns i n).2 k=(jQ ns i k).1.length:=by
 obtain⟨d,rfl⟩:∃d,n=k+1+d:=⟨n-(k+1),by omega⟩
 rw[Ng ns i d (k+1) k (by omega) (by omega)]
 have hl:=wN ns i k
 simp only[jQ,ha,if_true];rw[vM (by omega)]
theorem T6 {ns:List Node} (hu:gK ns) {i:Int} {n:Nat} (hn:n≤ns.length) {a b:Int} (a0:0≤a) (hab:a<b) (hb:b<n) (ha:tW ns i a=true) (oB:tW ns i b=true):it (jQ ns i n).2 a<it (jQ ns i n).2 b:=by
 obtain⟨k,rfl⟩:∃k:Nat,b=k:=⟨b.toNat,by omega⟩
 rw[aCC (by omega) oB]
 obtain⟨d,rfl⟩:∃d,n=k+d:=⟨n-k,by omega⟩
 rw[Ng ns i d k a a0 hab];exact (VP hu k (by omega) a a0 hab ha).2.1
theorem Pv (ns:List Node) (i:Int):∀(k:Nat) (m:Int),0≤m→m<(jQ ns i k).1.length→∃a:Int,0≤a∧a<k∧tW ns i a=true∧it (jQ ns i k).2 a=m
 | 0,m,m0,m1=>by simp[jQ] at m1;omega
 | k+1,m,m0,m1=>by
   have hl:=wN ns i k
   simp only[jQ] at m1 ⊢;split at m1
   ·rename_i h;rw[if_pos h];simp only at m1 ⊢
    by_cases hm:m<(jQ ns i k).1.length
    ·obtain⟨a,a0,a1,ha,he⟩:=Pv ns i k m m0 hm
     exact⟨a,a0,by omega,ha,by rw[kN a0 (by omega)];exact he⟩
    ·simp at m1
     exact⟨k,by omega,by omega,h,by rw[vM (by omega)];omega⟩
   ·rename_i h;rw[if_neg h];simp only at m1 ⊢
    obtain⟨a,a0,a1,ha,he⟩:=Pv ns i k m m0 m1
    exact⟨a,a0,by omega,ha,by rw[kN a0 (by omega)];exact he⟩
end Go.Ab.Tryz
section
namespace Go.Ab.Tryz
open Classical Go.Proofs Go.Ab
variable {ns:List Node} {i:Int}
theorem GO (hu:gK ns) {a:Int} (ha:tW ns i a=true):0≤it (jQ ns i ns.length).2 a∧it (jQ ns i ns.length).2 a<(jQ ns i ns.length).1.length∧nd (jQ ns i ns.length).1 (it (jQ ns i ns.length).2 a)={ nd ns a with up:=if a=i then -1 else it (jQ ns i ns.length).2 (nd ns a).up }:=by
 have h:=(Yy hu ha).2
 exact VP hu ns.length (Nat.le_refl _) a h.1 h.2 ha
theorem o7 (hu:gK ns) {a b:Int} (hab:a<b) (ha:tW ns i a=true) (hb:tW ns i b=true):it (jQ ns i ns.length).2 a<it (jQ ns i ns.length).2 b :=
 T6 hu (Nat.le_refl _) (Yy hu ha).2.1 hab (Yy hu hb).2.2 ha hb
theorem IW (hu:gK ns) (hi:tW ns i i=true):it (jQ ns i ns.length).2 i=0:=by
 obtain⟨h1,h2,_⟩:=GO hu hi
 obtain⟨a,a0,a1,ha,he⟩:=Pv ns i ns.length 0 (Int.le_refl 0) (by omega)
 have:=S8 hu ha
 by_cases h:i=a
 ·rw[h] at he ⊢;rw[← h] at he ⊢;exact he
 ·have:=o7 hu (show i<a by omega) hi ha
  omega
theorem aKe (hu:gK ns) {a:Int} (ha:tW ns i a=true) (h:a≠i):0<a∧(0≤(nd ns a).up∧(nd ns a).up<a)∧tW ns i (nd ns a).up=true:=by
 obtain⟨⟨i0,_⟩,a0,a1⟩:=Yy hu ha
 have:=S8 hu ha
 have hp:0<a:=by omega
 refine⟨hp,hu a hp a1, ?_⟩
 rw[← S7 hu a1 (by omega) i0];exact ha
theorem o8 (hu:gK ns) (hi:tW ns i i=true):gK (jQ ns i ns.length).1:=by
 intro m m0 m1;obtain⟨a,a0,a1,ha,rfl⟩:=Pv ns i ns.length m (by omega) m1
 have GN:a≠i:=by rintro rfl;rw[IW hu hi] at m0;omega
 obtain⟨_,⟨u0,u1⟩,Pb⟩:=aKe hu ha GN
 rw[(GO hu ha).2.2];simp only[if_neg GN];exact⟨(GO hu Pb).1,o7 hu u1 Pb ha⟩
end Go.Ab.Tryz
end
namespace Go.Ab.Tryz
open Classical Go.Proofs Go.Ab
structure Vld (ns:List Node):Prop where
 F1:0<ns.length
 aV7:ns.length≤4096
 Xs:(nd ns 0).up=-1
 up:gK ns
 par:∀i:Int,0<i→i<ns.length→(nd ns i).block.parent=(nd ns (nd ns i).up).block.root
 slot:∀i:Int,0<i→i<ns.length→(nd ns (nd ns i).up).block.slot<(nd ns i).block.slot
 roots:∀i j:Int,0≤i→i<j→j<ns.length→(nd ns i).block.root≠(nd ns j).block.root
 st:∀i:Int,0≤i→i<ns.length→VJ (nd ns i).status=true
end Go.Ab.Tryz
namespace Go.Ab.Tryz
open Classical Go.Proofs Go.Ab
end Go.Ab.Tryz
namespace Go.Ab.Tryz
open Classical Go.Proofs Go.Ab
noncomputable def Vo (st:St) (e:Option nP) (o:Nat):Option AV :=
 match e with
 | some (.cells cs)=>(cM (cs.map (wW st))).map fun ds=>.ip ds o
 | _=>none
theorem oF (st:St) (f s g o:Nat):fP st (.rW f [.ptr s g o])=(Vo st (st.heap s g) o).map fun y=>.rW f [y]:=by
 have hn:¬Flat (.rW f [.ptr s g o]):=by intro h;cases h with|rW _ _ h=>exact yU s g o (h _ (by simp))
 unfold fP Vo;rw[if_neg hn];simp only[List.map_cons,List.map_nil];unfold cJ;rw[if_neg (yU s g o)];simp only
 cases st.heap s g with
 | none=>rfl
 | some e=>cases e with
   | cells cs =>
     simp only
     cases cM (cs.map (wW st))<;>rfl
   | _=>rfl
theorem sW (st:St) {cs:List AV} (h:∀c∈cs,Flat c) (o:Nat):Vo st (some (.cells cs)) o=some (.ip cs o):=by
 unfold Vo;simp only[Ii h,Option.map_some]
theorem VQ (st:St) (r:cN) (o:Nat):Vo st (some (.cells (bD r))) o=some (.ip (bD r) o):=sW st (dO r) o
theorem aPJ (n:Node) (r:cN):aB Tryz.prog 151 [.agg (fJ n),.ip (bD r) 0]=some (.v (.bool (decide (n.block.root=r)))):=by
 rw[cL Tryz.func151 rfl aKf rfl];simp only[ZZ,seval];exact bZ rfl (by simp only[EV,seval]) (.v _)
theorem aCD (r:cN):Flat (.ip (bD r) 0):=.ip _ _ (dO r)
theorem aKg (n:Node) (r:cN) (st:St) (d:Option Nat):aO (aB Tryz.prog) 151 ([.agg (fJ n)]++[.ip (bD r) 0]) st d=some { dst:=d,val:=.v (.bool (decide (n.block.root=r)))}:=bG (bF (.agg _ (Nh n)) (aCD r)) (aPJ n r) (.v _)
theorem aPK (ns:List Node) (hn:(ns.length:Int)<1000000) (r:cN):aB Tryz.prog 150 [.sl ns.length (bU ns),.rW 151 [.ip (bD r) 0]]=some (.v (.int .i64 (aN ns r))):=by
 rw[cL Tryz.func150 rfl aKh rfl];simp only[ZZ,seval];refine kJ (fun n st=>∃i:Int,(st.env 0=.sl ns.length (bU ns)∧st.env 1=.rW 151 [.ip (bD r) 0]∧st.env 7=.v (.int .i64 ns.length)∧st.env 8=.v (.int .i64 i))∧0≤i∧i≤ns.length∧n=(ns.length-i).toNat∧∀j,0≤j→j<i→(nd ns j).block.root≠r)
  (fun e st=>(e=.ret∧st.env 4=.v (.int .i64 (aN ns r)))∨(e=.exit 0∧aN ns r=-1)) ns.length ?step ?start ?rest
 case step =>
  rintro n st ⟨i,hI,i0,i1,Hu,hb⟩
  by_cases bA:i<ns.length
  ·have hw:IntKind.i64.wrap (i+1)=i+1:=Hi _ (by omega) (by omega)
   by_cases hr:(nd ns i).block.root=r
   ·have hd:decide ((nd ns i).block.root=r)=true:=decide_eq_true hr
    apply oT (.ret)
    ·simp only[ZZ,seval,hI,bA,i0,aKg,hd];rfl
    ·exact .inl ⟨rfl,by simp only[EV,seval,NP i0 bA hr hb]⟩
   ·have hd:decide ((nd ns i).block.root=r)=false:=decide_eq_false hr
    apply oN ((ns.length-(i+1)).toNat)
    ·simp only[ZZ,seval,hI,bA,i0,aKg,hd,hw];rfl
    ·exact⟨i+1,by simp only[EV,seval,hI],by omega,by omega,rfl,fun j j0 j1=>by
     rcases Int.lt_or_eq_of_le (show j≤i by omega) with h|rfl
     ·exact hb j j0 h
     ·exact hr⟩
  ·apply oT (.exit 0)
   ·simp only[ZZ,seval,hI,bA,i0];rfl
   ·exact .inr ⟨rfl,Yt fun j j0 j1=>hb j j0 (by omega)⟩
 case start=>exact⟨0,(by simp only[EV,seval]),by omega,by omega,by omega,fun j _ _=>by omega⟩
 case rest =>
  rintro e st (⟨rfl,h⟩|⟨rfl,h⟩)
  ·simp only[ZZ,seval];exact bZ rfl h (.v _)
  ·simp only[ZZ,seval];exact bZ rfl (by simp only[EV,seval,h]) (.v _)
theorem aPL (args:List AV) (st:St) (d:Option Nat):aO (aB Tryz.prog) 150 args st d=uF (aB Tryz.prog) 150 (cM (args.map (fP st))) (decide (∀x∈args,Flat x)) st d:=jV _ _ _ _ _
theorem aPM (ns:List Node) (hn:(ns.length:Int)<1000000) (r:cN) (fl:Bool) (st:St) (d:Option Nat):uF (aB Tryz.prog) 150 (some [.sl ns.length (bU ns),.rW 151 [.ip (bD r) 0]]) fl st d=some { dst:=d,val:=.v (.int .i64 (aN ns r))}:=Vp (aPK ns hn r)
theorem T7 (st:St) (n:Nat) (l:List Node):fP st (.sl n (bU l))=some (.sl n (bU l)):=eB (.sl _ _ (gX l))
theorem c89 (ns:List Node) (r:cN) (hn:(ns.length:Int)<1000000):aB Tryz.prog 89 [.agg (cO ⟨ns⟩),.agg (bD r)]=some (.v (.int .i64 (aN ns r))):=by
 rw[cL Tryz.func89 rfl aPN rfl];simp only[ZZ,seval,aPL,oF,VQ,T7,aPM,hn];exact bZ rfl (by simp only[EV,seval]) (.v _)
theorem k89 (ns:List Node) (r:cN) (hn:(ns.length:Int)<1000000) (st:St) (d:Option Nat):aO (aB Tryz.prog) 89 [.agg (cO ⟨ns⟩),.agg (bD r)] st d=some { dst:=d,val:=.v (.int .i64 (aN ns r))}:=bG (bF (mD _) (qQ _)) (c89 ns r hn) (.v _)
end Go.Ab.Tryz
namespace Go.Ab.Tryz
open Classical Go.Proofs Go.Ab
end Go.Ab.Tryz
namespace Go.Ab.Tryz
open Classical Go.Proofs Go.Ab
noncomputable def aGf (l:List Int):AV:=if l=[] then .v (.slice none 0 0) else .uniq 3 1 l.length (aK l)
theorem Zc:aGf []=.v (.slice none 0 0):=if_pos rfl
theorem o9 {l:List Int} (h:l≠[]):aGf l=.uniq 3 1 l.length (aK l):=if_neg h
def Vq (ns:List Node) (i:Int):Nat→List Int
 | 0=>[]
 | k+1=>if (nd ns k).up=i then Vq ns i k++[(k:Int)] else Vq ns i k
theorem Xt (ns:List Node) (i:Int):∀k,(Vq ns i k).length≤k
 | 0=>Nat.le_refl _
 | k+1=>by
   have:=Xt ns i k
   simp only[Vq];split
   ·simp;omega
   ·omega
theorem NU {ns:List Node} {i:Int}:∀k:Nat,(∀j:Int,0≤j→j<k→(nd ns j).up≠i)→Vq ns i k=[]
 | 0,_=>rfl
 | k+1,h=>by
   simp only[Vq];rw[if_neg (h k (by omega) (by omega))]
   exact NU k fun j j0 j1=>h j j0 (by omega)
theorem aKi {ns:List Node} (hu:gK ns) (hr:(nd ns 0).up=-1) {j:Int} (j0:0≤j) (j1:j<ns.length):(nd ns j).up<ns.length:=by
 by_cases h:j=0
 ·subst h;omega
 ·have:=hu j (by omega) j1;omega
def wZ (ns:List Node) (i:Int):List Int:=if i<0 then [] else Vq ns i ns.length
theorem NV {ns:List Node} (hu:gK ns) (hr:(nd ns 0).up=-1) {i:Int} (h:¬(0≤i∧i<ns.length)):wZ ns i=[]:=by
 unfold wZ;split
 ·rfl
 ·exact NU _ fun j j0 j1=>by have:=aKi hu hr j0 j1;omega
theorem aKj (ns:List Node) (hu:gK ns) (hr:(nd ns 0).up=-1) (hn:(ns.length:Int)<1000000) (i:Int):aB Tryz.prog 245 [.agg (cO ⟨ns⟩),.v (.int .i64 i)]=some (aGf (wZ ns i)):=by
 rw[cL Tryz.func245 rfl aKk rfl];by_cases hm:0≤i∧i<ns.length
 ·have hd:(decide (0≤i) && decide (i<ns.length))=true:=by simp[hm.1,hm.2]
  rw[show wZ ns i=Vq ns i ns.length from if_neg (by omega)]
  simp only[ZZ,seval];refine kJ (fun n st=>∃k:Nat,(st.env 1=.v (.int .i64 i)∧st.env 2=.ptr 2 0 0∧st.heap 2 0=some (.cells (cO ⟨ns⟩))∧st.env 6=.v (.int .i64 k)) ∧
   ((Vq ns i k=[]∧st.env 5=.v (.slice none 0 0))∨(Vq ns i k≠[]∧∃g,st.env 5=.own 30 g∧g<st.aU 30∧st.heap 30 g=some (.row 3 1 (Vq ns i k).length (aK (Vq ns i k)))))∧k≤ns.length∧n=ns.length-k)
   (fun e st=>e=.exit 0∧((Vq ns i ns.length=[]∧st.env 5=.v (.slice none 0 0))∨(Vq ns i ns.length≠[]∧∃g,st.env 5=.own 30 g∧g<st.aU 30∧st.heap 30 g=some (.row 3 1 (Vq ns i ns.length).length (aK (Vq ns i ns.length)))))) ns.length ?step ?start ?rest
  case step =>
   rintro n st ⟨k,hI,h5,hk,Hu⟩
   have hl:=Xt ns i k
   have Hv:((Vq ns i k).length:Int)<1000000:=by omega
   by_cases bA:(k:Int)<ns.length
   ·have hw:IntKind.i64.wrap ((k:Int)+1)=((k+1:Nat):Int):=by rw[Hi _ (by omega) (by omega)];omega
    have q0:(0:Int)≤k:=by omega
    by_cases hu:(nd ns k).up=i
    ·have hq:((nd ns k).up == i)=true:=by simp[hu]
     have hs:Vq ns i (k+1)=Vq ns i k++[(k:Int)]:=by simp only[Vq,hu,if_true]
     rcases h5 with ⟨hy,h5⟩|⟨hy,g,h5⟩
     ·rw[hy] at hs;apply oN (ns.length-(k+1))
      ·simp only[ZZ,seval,hI,h5,bA,hw,q0,hq,US,hd];rfl
      ·exact⟨k+1,by simp only[EV,seval,hI],.inr ⟨by rw[hs];simp,_,by simp only[EV,seval]<;>rfl,(by simp only[EV,seval]<;>omega),(by rw[hs];simp only[EV,seval]<;>rfl)⟩,by omega,rfl⟩
     ·apply oN (ns.length-(k+1))
      ·simp only[ZZ,seval,hI,h5,Hv,bA,hw,q0,hq,US,hd];rfl
      ·exact⟨k+1,by simp only[EV,seval,hI],.inr ⟨by rw[hs];simp,_,by simp only[EV,seval]<;>rfl,(by simp only[EV,seval]<;>omega),(by rw[hs];simp only[EV,seval]<;>rfl)⟩,by omega,rfl⟩
    ·have hq:((nd ns k).up == i)=false:=by simp[hu]
     have hs:Vq ns i (k+1)=Vq ns i k:=by simp only[Vq,hu,if_false]
     apply oN (ns.length-(k+1))
     ·simp only[ZZ,seval,hI,bA,hw,q0,hq,US,hd];rfl
     ·exact⟨k+1,by simp only[EV,seval,hI],by rw[hs];simpa only[EV,seval] using h5,by omega,rfl⟩
   ·obtain rfl:k=ns.length:=by omega
    apply oT (.exit 0)
    ·simp only[ZZ,seval,hI,bA];rfl
    ·exact⟨rfl,by simpa only[EV,seval] using h5⟩
  case start=>exact⟨0,(by simp only[EV,seval]),.inl ⟨rfl,(by simp only[EV,seval])⟩,by omega,rfl⟩
  case rest =>
   rintro e st ⟨rfl,⟨hy,h5⟩|⟨hy,g,h5,hg,Bh⟩⟩
   ·rw[hy,Zc];simp only[ZZ,seval,h5];exact bZ rfl (by simp only[EV,seval]) (.v _)
   ·rw[o9 hy];simp only[ZZ,seval,h5,Bh];exact tV rfl (by simp only[EV,seval];rfl) (by simp only[EV,seval,Bh]) (fV _)
 ·have hd:(decide (0≤i) && decide (i<ns.length))=false:=by
   rw[← Bool.not_eq_true];simpa using hm
  rw[NV hu hr hm,Zc];by_cases h0:(0:Int)<ns.length
  ·simp only[ZZ,seval,Ic,US,hd,h0];exact bZ rfl (by simp only[EV,seval]) (.v _)
  ·simp only[ZZ,seval,Ic,US,hd,h0];exact bZ rfl (by simp only[EV,seval]) (.v _)
theorem aKl (ns:List Node) (hu:gK ns) (hr:(nd ns 0).up=-1) (hn:(ns.length:Int)<1000000) (i:Int) (h:wZ ns i≠[]) (st:St) (d:Nat):aO (aB Tryz.prog) 245 [.agg (cO ⟨ns⟩),.v (.int .i64 i)] st (some d)=some { dst:=some d,val:=.own d (st.aU d),new:=some (d,[.row 3 1 (wZ ns i).length (aK (wZ ns i))])}:=by
 have hc:=aKj ns hu hr hn i
 rw[o9 h] at hc;exact jG (bF (mD _) (.v _)) hc
theorem aE3 (ns:List Node) (hu:gK ns) (hr:(nd ns 0).up=-1) (hn:(ns.length:Int)<1000000) (i:Int) (h:wZ ns i=[]) (st:St) (d:Option Nat):aO (aB Tryz.prog) 245 [.agg (cO ⟨ns⟩),.v (.int .i64 i)] st d=some { dst:=d,val:=.v (.slice none 0 0)}:=by
 have hc:=aKj ns hu hr hn i
 rw[h,Zc] at hc;exact bG (bF (mD _) (.v _)) hc (.v _)
end Go.Ab.Tryz
namespace Go.Ab.Tryz
open Classical Go.Proofs Go.Ab
end Go.Ab.Tryz
namespace Go.Ab.Tryz
open Classical Go.Proofs Go.Ab
theorem Pw [Ext] {P:Program} {f:Nat} {fn:Func} {st:St} {e:Ex} {r:ResultVar} {x y:AV} (hk:Ext.qL f=true) (he:e=.ret∨e=.normal) (hr:fn.results.toList=[r]) (h1:bY P st r=some x) (hn:(lW x).Nodup) (hy:Dn st x=some y):Bi P f fn (e,st)=some y:=by
 have h:jT P f fn st=some y:=by
  unfold jT;rw[hk,if_pos rfl];unfold Pj;rw[hr];simp only[rI,h1,cT,if_pos hn,hy]
 rcases he with rfl|rfl<;>exact h
theorem NX [Ext] {P:Program} {f:Nat} {fn:Func} {st:St} {e:Ex} {r1 r2:ResultVar} {x1 x2 y:AV} (hk:Ext.qL f=true) (he:e=.ret∨e=.normal) (hr:fn.results.toList=[r1,r2]) (h1:bY P st r1=some x1) (h2:bY P st r2=some x2)
 (hn:(lW (.eG [x1,x2])).Nodup) (hy:Dn st (.eG [x1,x2])=some y):Bi P f fn (e,st)=some y:=by
 have h:jT P f fn st=some y:=by
  unfold jT;rw[hk,if_pos rfl];unfold Pj;rw[hr];simp only[List.map_cons,List.map_nil,rI,h1,h2,cT,cM,Option.map_some,if_pos hn,hy]
 rcases he with rfl|rfl<;>exact h
theorem GP {st:St} {s g e sz n:Nat} {cs:List AV} (h:st.heap s g=some (.row e sz n cs)) (hf:∀c∈cs,Flat c):sF st (.agg [.own s g])=some (.agg [.uniq e sz n cs]):=by
 simp only[sF,List.map_cons,List.map_nil,kM,if_neg (nA s g),h,if_pos hf,cM,Option.map_some]
theorem F2 (st:St):sF st (.agg [.v (.slice none 0 0)])=some (.agg [.v (.slice none 0 0)]):=by
 simp only[sF,List.map_cons,List.map_nil,kM,if_pos (Flat.v _),cM,Option.map_some]
theorem p4 (st:St) (x:Value):sF st (.v x)=some (.v x):=by simp only[sF,kM,if_pos (Flat.v x)]
theorem GQ {st:St} {a b x y:AV} (h1:sF st a=some x) (h2:sF st b=some y):Dn st (.eG [a,b])=some (.eG [x,y]):=by
 simp only[Dn,List.map_cons,List.map_nil,h1,h2,cM,Option.map_some]
theorem F3 {st:St} {cs:List AV} {x:AV} (h1:sF st (.agg cs)=some x):Dn st (.agg cs)=some x:=h1
theorem Mg (e sz n:Nat) (cs:List AV):¬Flat (.uniq e sz n cs):=by intro h;cases h
theorem F4 {e sz n:Nat} {cs:List AV} {st:St} {d:Nat}:jD (.agg [.uniq e sz n cs]) st (some d)=some { dst:=some d,val:=.agg [.own d (st.aU d)],new:=some (d,[.row e sz n cs])}:=by
 have hn:¬Flat (.agg [.uniq e sz n cs]):=by intro h;cases h with|agg _ h=>exact Mg e sz n cs (h _ (by simp))
 unfold jD;rw[if_neg hn];rfl
theorem F5 {e sz n:Nat} {cs:List AV} {x:Value} {st:St} {d:Nat}:jD (.eG [.agg [.uniq e sz n cs],.v x]) st (some d)=some { dst:=some d,val:=.eG [.agg [.own d (st.aU d)],.v x],new:=some (d,[.row e sz n cs])}:=by
 have hn:¬Flat (.eG [.agg [.uniq e sz n cs],.v x]):=by
  intro h;cases h with
  | eG _ h =>
    have:=h (.agg [.uniq e sz n cs]) (by simp)
    cases this with
    | agg _ h=>exact Mg e sz n cs (h _ (by simp))
 unfold jD;rw[if_neg hn];rfl
theorem aCF {call:Nat→List AV→Option AV} {g:Nat} {args:List AV} {d e sz n:Nat} {cs:List AV} {st:St} (hf:∀x∈args,Flat x) (h:call g args=some (.agg [.uniq e sz n cs])):aO call g args st (some d)=some { dst:=some d,val:=.agg [.own d (st.aU d)],new:=some (d,[.row e sz n cs])}:=by
 unfold aO;rw[if_pos hf,h];exact F4
theorem aKm {call:Nat→List AV→Option AV} {g:Nat} {xs:List AV} {d e sz n:Nat} {cs:List AV} {x:Value} {fl:Bool} {st:St} (h:call g xs=some (.eG [.agg [.uniq e sz n cs],.v x])) (hm:∀c∈cs,iD c):uF call g (some xs) fl st (some d)=some { dst:=some d,val:=.eG [.agg [.own d (st.aU d)],.v x],new:=some (d,[.row e sz n cs])}:=by
 have p5:Yj (.eG [.agg [.uniq e sz n cs],.v x]):=by
  intro y hy;rcases List.mem_cons.1 hy with rfl|hy
  ·intro c hc;simp at hc
   subst hc;exact hm
  ·simp at hy
   subst hy;exact .v _
 unfold uF;simp only[cF,h,p5,or_true,if_true];exact F5
theorem aKn {call:Nat→List AV→Option AV} {g:Nat} {xs:List AV} {x y:Value} {fl:Bool} {st:St} {d:Option Nat} (h:call g xs=some (.eG [.agg [.v y],.v x])):uF call g (some xs) fl st d=some { dst:=d,val:=.eG [.agg [.v y],.v x]}:=by
 have hf:∀z∈[AV.agg [.v y],.v x],Flat z:=bF (.agg _ (cV (.v _))) (.v _)
 refine F6 h ?_ (.eG _ hf)
 intro z hz;rcases List.mem_cons.1 hz with rfl|hz
 ·intro c hc;simp at hc;subst hc;exact .v _
 ·simp at hz;subst hz;exact .v _
theorem p6 {z:Nat} {α:Type} (f:α→List AV) (hf:∀x,(f x).length=z):∀(l:List α) (i o:Nat) (hi:i<l.length),o<z→(l.flatMap f)[i * z+o]? = (f l[i])[o]?
 | [],i,o,hi,_=>by simp at hi
 | a :: l,0,o,_,ho=>by
   simp only[List.flatMap_cons,Nat.zero_mul,Nat.zero_add,List.getElem_cons_zero];rw[List.getElem?_append_left (by rw[hf];exact ho)]
 | a :: l,i+1,o,hi,ho=>by
   have ih:=p6 f hf l i o (by simpa using hi) ho
   simp only[List.flatMap_cons,List.getElem_cons_succ];rw[List.getElem?_append_right (by rw[hf,Nat.succ_mul];omega),hf,show (i+1) * z+o-z=i * z+o by rw[Nat.succ_mul];omega]
   exact ih
theorem p7 {z:Nat} {α:Type} (f:α→List AV) (hf:∀x,(f x).length=z) (o e:Nat) (xs:List AV) (hoe:o≤e) (he:e≤z):∀(l:List α) (i:Nat) (hi:i<l.length) (y:α),dS (f l[i]) o xs e=f y→dS (l.flatMap f) (i * z+o) xs (i * z+e)=(l.set i y).flatMap f
 | [],i,hi,_,_=>by simp at hi
 | a :: l,0,_,y,h=>by
   simp only[List.flatMap_cons,Nat.zero_mul,Nat.zero_add,List.set_cons_zero,List.getElem_cons_zero] at h ⊢;rw[← h];unfold dS;rw[List.take_append_of_le_length (by rw[hf];omega),List.drop_append_of_le_length (by rw[hf];omega)]
   simp
 | a :: l,i+1,hi,y,h=>by
   have ih:=p7 f hf o e xs hoe he l i (by simpa using hi) y (by simpa using h)
   simp only[List.flatMap_cons,List.set_cons_succ];rw[← ih];unfold dS;have h1:(i+1) * z+o=z+(i * z+o):=by rw[Nat.succ_mul];omega
   have h2:(i+1) * z+e=z+(i * z+e):=by rw[Nat.succ_mul];omega
   rw[h1,h2,List.take_append,List.drop_append,List.take_of_length_le (by rw[hf];omega),List.drop_of_length_le (by rw[hf];omega),hf,Nat.add_sub_cancel_left,Nat.add_sub_cancel_left]
   simp
theorem F7 {l:List Bool} {xs:List AV} (h:iR l xs xs):∀c∈xs,iD c:=by
 obtain⟨us,vs,rfl,_,_⟩:=Dq _ _ _ h
 intro c hc;obtain⟨x,_,rfl⟩:=List.mem_map.1 hc
 exact .v _
theorem Zd (l:List Node):∀c∈bU l,iD c:=fun c hc=>by
 obtain⟨n,_,h⟩:=List.mem_flatMap.1 hc
 exact F7 (Ze n n) c h
theorem F9 {l:List Node} {i:Int} (h0:0≤i) (h1:i<l.length) (o:Nat) (ho:o<240):(bU l)[i.toNat * 240+o]? = (fJ (nd l i))[o]?:=by
 obtain⟨h,e⟩:=Nc h0 h1
 rw[e];exact p6 fJ vN l i.toNat o h ho
theorem G0 {l:List Node} {i:Int} (h0:0≤i) (h1:i<l.length) {o e:Nat} {xs:List AV} (hoe:o≤e) (he:e≤240) {y:Node} (h:dS (fJ (nd l i)) o xs e=fJ y):dS (bU l) (i.toNat * 240+o) xs (i.toNat * 240+e)=bU (l.set i.toNat y):=by
 obtain⟨hi,e'⟩:=Nc h0 h1
 rw[e'] at h;exact p7 fJ vN o e xs hoe he l i.toNat hi y h
def Zf (n:Node) (s:Int):Node:={ n with status:=s }
def setAt (ns:List Node) (i s:Int):List Node:=ns.set i.toNat (Zf (nd ns i) s)
theorem VR {l:List Node} {i s:Int} (h0:0≤i) (h1:i<l.length):dS (bU l) (i.toNat * 240+239) [.v (.int .i64 s)] (i.toNat * 240+240)=bU (setAt l i s) :=
 G0 h0 h1 (by decide) (by decide) (Ij (nd l i) _)
theorem VS {l:List Node} {i:Int} (h0:0≤i) (h1:i<l.length):(bU l)[i.toNat * 240+239]? = some (.v (.int .i64 (nd l i).status)):=by
 rw[F9 h0 h1 239 (by decide)]
 exact Gy (nd l i)
theorem Dt (ns:List Node) (i s:Int):(setAt ns i s).length=ns.length:=by simp[setAt]
def GR (to never:Int):List Int→List Node→Option (List Node)
 | [],ns=>some ns
 | i :: l,ns=>if (nd ns i).status=never then none else GR to never l (setAt ns i to)
theorem IX {to never:Int}:∀(l:List Int) (ns r:List Node),GR to never l ns=some r→r.length=ns.length
 | [],ns,r,h=>by simp only[GR,Option.some.injEq] at h;rw[h]
 | i :: l,ns,r,h=>by
   simp only[GR] at h;split at h
   ·cases h
   ·rw[IX l _ r h,Dt]
theorem VT {l:List Node} (h:0<l.length):bU l≠[]:=by
 intro he;have:=congrArg List.length he
 rw[Ni] at this;simp only[List.length_nil] at this;omega
theorem aPP (l:List Node) (h0:0<l.length) (hn:(l.length:Int)<1000000):aB Tryz.prog 192 [.sl l.length (bU l)]=some (.uniq 76 240 l.length (bU l)):=by
 rw[cL Tryz.func192 rfl aKo rfl];have fQ:=VT h0
 have ha:=fun s g=>Kk (e:=76) (sz:=240) (by_:=352) (s:=s) (g:=g) (n:=l.length) (cs:=bU l) (by simp) (by omega) (by unfold maxLen;omega)
 simp only[ZZ,seval,fQ,ha];exact tV rfl (by simp only[EV,seval];rfl) (by simp only[EV,seval]) (gX _)
theorem aPQ (l:List Node) (h0:0<l.length) (hn:(l.length:Int)<1000000) (st:St) (d:Nat):aO (aB Tryz.prog) 192 [.sl l.length (bU l)] st (some d)=some { dst:=some d,val:=.own d (st.aU d),new:=some (d,[.row 76 240 l.length (bU l)])}:=jG (cV (.sl _ _ (gX l))) (aPP l h0 hn)
theorem aPR (ns:List Node) (h0:0<ns.length) (hn:(ns.length:Int)<1000000):aB Tryz.prog 165 [.agg (cO ⟨ns⟩)]=some (.agg [.uniq 76 240 ns.length (bU ns)]):=by
 rw[cL Tryz.func165 rfl aKp rfl];have hK:=aPQ ns h0 hn
 simp only[ZZ,seval,hK];refine Pw rfl (.inl rfl) rfl (x:=.agg [.own 5 0]) (by simp only[bY,ZZ,seval]) (by simp[lW,jF,gQ]) (F3 (GP (by simp only[EV,seval]) (gX _)))
theorem aKq (ns:List Node) (h0:0<ns.length) (hn:(ns.length:Int)<1000000) (st:St) (d:Nat):aO (aB Tryz.prog) 165 [.agg (cO ⟨ns⟩)] st (some d)=some { dst:=some d,val:=.agg [.own d (st.aU d)],new:=some (d,[.row 76 240 ns.length (bU ns)])}:=aCF (cV (mD _)) (aPR ns h0 hn)
theorem aCG {l:List Int} {k:Nat} (h:k<l.length):l.drop k=it l k :: l.drop (k+1):=by
 rw[List.drop_eq_getElem_cons h];simp[it,h]
theorem aKr (s g:Nat) (x:Value):(lW (.eG [.agg [.own s g],.v x])).Nodup:=by simp[lW,jF,gQ]
theorem aKs (y x:Value):(lW (.eG [.agg [.v y],.v x])).Nodup:=by simp[lW,jF,gQ]
def DU (e:Int):AV:=.eG [.agg [.v (.slice none 0 0)],.v (.int .i64 e)]
def chS (o:Option (List Node)):AV :=
 match o with
 | none=>.eG [.agg [.v (.slice none 0 0)],.v (.bool false)]
 | some r=>.eG [.agg [.uniq 76 240 r.length (bU r)],.v (.bool true)]
theorem aKt (ns:List Node) (h0:0<ns.length) (hn:(ns.length:Int)<1000000) (l:List Int) (hl:(l.length:Int)<1000000) (hm:∀x∈l,0≤x∧x<ns.length) (to never:Int) :
 aB Tryz.prog 247 [.agg (cO ⟨ns⟩),.sl l.length (aK l),.v (.int .i64 to),.v (.int .i64 never)]=some (chS (GR to never l ns)):=by
 rw[cL Tryz.func247 rfl aKu rfl];simp only[ZZ,seval,hn];refine kJ (fun n st=>∃(k:Nat) (cur:List Node),(st.env 1=.sl l.length (aK l)∧st.env 2=.v (.int .i64 to)∧st.env 3=.v (.int .i64 never)∧st.env 8=.ptr 8 0 0∧st.heap 8 0=some (.cells [.v (.slice none 0 0)])∧st.env 10=.ptr 10 0 0∧st.heap 10 0=some (.cells [.own 14 0])∧st.heap 14 0=some (.row 76 240 cur.length (bU cur))∧st.env 11=.v (.int .i64 k))∧cur.length=ns.length∧GR to never l ns=GR to never (l.drop k) cur∧k≤l.length∧n=l.length-k)
  (fun e st=>(e=.ret∧GR to never l ns=none∧st.env 8=.ptr 8 0 0∧st.heap 8 0=some (.cells [.v (.slice none 0 0)])∧st.env 9=.v (.bool false))∨(e=.exit 0∧∃r,GR to never l ns=some r∧st.env 8=.ptr 8 0 0∧st.heap 8 0=some (.cells [.v (.slice none 0 0)])∧st.env 10=.ptr 10 0 0∧st.heap 10 0=some (.cells [.own 14 0])∧st.heap 14 0=some (.row 76 240 r.length (bU r)))) l.length ?step ?start ?rest
 case step =>
  rintro n st ⟨k,cur,hI,Ac,hc,hk,Hu⟩
  by_cases bA:(k:Int)<l.length
  ·have q0:(0:Int)≤k:=by omega
   have hw:IntKind.i64.wrap ((k:Int)+1)=((k+1:Nat):Int):=by rw[Hi _ (by omega) (by omega)];omega
   obtain⟨x0,x1⟩:=hm _ (Fw q0 bA)
   have x2:it l k<cur.length:=by omega
   rw[aCG (by omega)] at hc
   simp only[GR] at hc;have hg:=VS x0 x2
   by_cases hs:(nd cur (it l k)).status=never
   ·rw[if_pos hs] at hc;have hb:((nd cur (it l k)).status == never)=true:=by simp[hs]
    apply oT (.ret)
    ·simp only[ZZ,seval,hI,bA,q0,x0,x2,hg,hb];rfl
    ·exact .inl ⟨rfl,hc,by simp only[EV,seval,hI],by simp only[EV,seval,hI],by simp only[EV,seval,hI]⟩
   ·rw[if_neg hs] at hc;have hb:((nd cur (it l k)).status == never)=false:=by simp[hs]
    have hu:=VR (s:=to) x0 x2
    have hle:(it l k).toNat * 240+239+1≤cur.length * 240:=by
     have:((it l k).toNat+1) * 240≤cur.length * 240:=Nat.mul_le_mul_right _ (by omega)
     omega
    have hle2:(it l k).toNat * 240+240≤cur.length * 240:=by omega
    apply oN (l.length-(k+1))
    ·simp only[ZZ,seval,hI,bA,q0,x0,x2,hg,hb,hu,hle,hle2,hw];rfl
    ·exact⟨k+1,setAt cur (it l k) to,by simp only[EV,seval,hI,Dt],by rw[Dt];exact Ac,hc,by omega,rfl⟩
  ·obtain rfl:k=l.length:=by omega
   rw[List.drop_length] at hc;apply oT (.exit 0)
   ·simp only[ZZ,seval,hI,bA];rfl
   ·exact .inr ⟨rfl,cur,hc,by simp only[EV,seval,hI]⟩
 case start=>exact⟨0,ns,by simp only[EV,seval]<;>rfl,rfl,rfl,by omega,by omega⟩
 case rest =>
  rintro e st (⟨rfl,hc,hI⟩|⟨rfl,r,hc,hI⟩)
  ·rw[hc];simp only[ZZ,seval];exact NX rfl (.inl rfl) rfl (x1:=.agg [.v (.slice none 0 0)]) (x2:=.v (.bool false)) (by simp only[bY,ZZ,seval,hI]) (by simp only[bY,ZZ,seval,hI]) (aKs _ _) (GQ (F2 _) (p4 _ _))
  ·rw[hc];simp only[ZZ,seval,hI];exact NX rfl (.inl rfl) rfl (x1:=.agg [.own 14 0]) (x2:=.v (.bool true)) (by simp only[bY,ZZ,seval,hI]) (by simp only[bY,ZZ,seval,hI]) (aKr _ _ _) (GQ (GP (by simp only[EV,seval,hI]) (gX _)) (p4 _ _))
theorem IY {ns:List Node} (hu:gK ns) {c:Int} (c0:0≤c) (c1:c<ns.length):0<(path ns c).length:=List.length_pos_iff.2 fun h=>by
 have:=vK hu c0 c1
 rw[h] at this;cases this
theorem G1 {ns:List Node} (hu:gK ns) {c:Int} (c0:0≤c) (c1:c<ns.length):it (path ns c) ((path ns c).length-1:Int)=c:=by
 by_cases h:c=0
 ·subst h;rw[rH (by omega)]
  rfl
 ·rw[pW hu (by omega) c1]
  exact vM (by simp)
end Go.Ab.Tryz
