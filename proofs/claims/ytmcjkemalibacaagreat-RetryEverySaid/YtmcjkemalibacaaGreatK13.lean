/-
  Part 13 of the proof: an evaluator of programs, its soundness, and what functions of this program compute.
-/
import Derived.Test.YtmcjkemalibacaaGreatK12
import Derived.Test.YtmcjkemalibacaaGreatK11
import Derived.Test.YtmcjkemalibacaaGreatK10
set_option linter.all false
set_option maxRecDepth 20000
set_option maxHeartbeats 40000000
namespace Go.Ab.Tryz
open Classical Go.Proofs Go.Ab
theorem aRl (ns:List Node) (hu:iB ns) (hr:(nd ns 0).up=-1) (hn:(ns.length:Int)<1000000) (w:List Int) (hw:w.length=ns.length) (b:List Bool) (hb:b.length=ns.length) (i:Int) :
 ∃r,aD Tryz.prog 225 [.agg (cU ⟨ns⟩),.sl w.length (bF w),.sl b.length (mX b),.v (.int .i64 i)]=some r∧∃k:Int,r=.v (.int .i64 k)∧(k=-1∨(i<k∧0≤k∧k<ns.length)):=by
 rw[cL Tryz.func225 rfl aMi rfl];by_cases hc:wS ns i=[]
 ·have kc:=fun st d=>aFy ns hu hr hn i hc st d
  simp only[Z8,seval,kc];refine cB (fun m st=>st.env 9=.v (.int .i64 (-1))∧st.env 10=.v (.slice none 0 0)∧st.env 11=.v (.int .i64 0)∧m=0) (fun e st=>e=.exit 0∧st.env 9=.v (.int .i64 (-1))) 0 ?step ?start ?rest
  case step =>
   rintro m st ⟨h9,h10,h11,_⟩
   apply oT (.exit 0)
   ·simp only[Z8,seval,h9,h10,h11,Int.lt_irrefl];rfl
   ·exact⟨rfl,by simp only[E8,seval,h9]⟩
  case start=>exact⟨by simp only[E8,seval]<;>rfl,by simp only[E8,seval]<;>rfl,by simp only[E8,seval]<;>rfl,rfl⟩
  case rest =>
   rintro e st ⟨rfl,h9⟩
   simp only[Z8,seval,h9];exact⟨_,bX rfl (by simp only[E8,seval,h9]<;>rfl) (by first|exact .v _|simp only[dW,h9]),-1,rfl,.inl rfl⟩
 have kc:=fun st d=>aK0 ns hu hr hn i hc st d
 have hgt:∀x∈wS ns i,i<x∧0≤x∧x<ns.length:=fun x hx=>GW hu hr hx
 have hin:((wS ns i).length:Int)<1000000:=by
  have h1:(wS ns i).length≤ns.length:=by
   unfold wS;split
   ·simp
   ·exact Vd ns i ns.length
  omega
 obtain⟨l,el⟩:∃l,wS ns i=l:=⟨_,rfl⟩
 rw[el] at kc hgt hin;simp only[Z8,seval,kc];refine cB (fun m st=>∃(k:Nat) (xM:Int),(st.env 4=.ptr 4 0 0∧st.heap 4 0=some (.cells (cU ⟨ns⟩))∧st.env 1=.sl w.length (bF w)∧st.env 2=.sl b.length (mX b)∧st.env 10=.own 15 0∧st.heap 15 0=some (.row 3 1 l.length (aJ l))∧st.env 9=.v (.int .i64 xM)∧st.env 11=.v (.int .i64 k))∧(xM=-1∨(i<xM∧0≤xM∧xM<ns.length))∧k≤l.length∧m=l.length-k)
  (fun e st=>e=.exit 0∧∃xM:Int,st.env 9=.v (.int .i64 xM)∧(xM=-1∨(i<xM∧0≤xM∧xM<ns.length))) l.length ?step ?start ?rest
 case step =>
  rintro m st ⟨k,xM,hI,ET,hk,hm⟩
  by_cases aZ:(k:Int)<l.length
  case neg =>
   apply oT (.exit 0)
   ·simp only[Z8,seval,hI,aZ];rfl
   ·exact⟨rfl,xM,by simp only[E8,seval,hI],ET⟩
  have q0:(0:Int)≤k:=by omega
  have hwr:IntKind.i64.wrap ((k:Int)+1)=((k+1:Nat):Int):=by rw[pM _ (by omega) (by omega)];omega
  have gi:=pG q0 aZ
  obtain⟨c,ec⟩:∃c,it l (k:Int)=c:=⟨_,rfl⟩
  have hc:=hgt c (by rw[← ec];obtain⟨h1,h2⟩:=xI q0 aZ;rw[h2];exact List.getElem_mem h1)
  obtain⟨c0,c1,c2⟩:=hc
  have c3:c<(w.length:Int):=by rw[hw];exact c2
  have c4:c<(b.length:Int):=by rw[hb];exact c2
  cases g1:gx false b c
  ·apply oN (l.length-(k+1))
   ·simp only[Z8,seval,hI,aZ,q0,gi,ec,c1,c3,c4,g1,hwr,qD,qF];rfl
   ·exact⟨k+1,xM,by simp only[E8,seval,hI],ET,by omega,rfl⟩
  by_cases g2:xM<0
  ·apply oN (l.length-(k+1))
   ·simp only[Z8,seval,hI,aZ,q0,gi,ec,c1,c3,c4,g1,g2,hwr,qD,qF];rfl
   ·exact⟨k+1,c,by simp only[E8,seval,hI],.inr ⟨c0,c1,c2⟩,by omega,rfl⟩
  have b1:0≤xM:=by omega
  have b2:xM<ns.length:=by omega
  have b3:xM<(w.length:Int):=by rw[hw];exact b2
  by_cases g3:gx (0:Int) w xM<gx (0:Int) w c
  ·apply oN (l.length-(k+1))
   ·simp only[Z8,seval,hI,aZ,q0,gi,ec,c1,c3,c4,g1,g2,b1,b3,g3,hwr,qD,qF];rfl
   ·exact⟨k+1,c,by simp only[E8,seval,hI],.inr ⟨c0,c1,c2⟩,by omega,rfl⟩
  by_cases g4:gx (0:Int) w c=gx (0:Int) w xM
  case neg =>
   apply oN (l.length-(k+1))
   ·simp only[Z8,seval,hI,aZ,q0,gi,ec,c1,c3,c4,g1,g2,b1,b3,g3,bf g4,hwr,qD,qF];rfl
   ·exact⟨k+1,xM,by simp only[E8,seval,hI],ET,by omega,rfl⟩
  by_cases g5:0<aLp (nd ns c).block.root (nd ns xM).block.root
  ·apply oN (l.length-(k+1))
   ·simp only[Z8,seval,hI,aZ,q0,gi,ec,c1,c2,c3,c4,g1,g2,b1,b2,b3,g3,bt g4,aGX,g5,hwr,qD,qF];rfl
   ·exact⟨k+1,c,by simp only[E8,seval,hI],.inr ⟨c0,c1,c2⟩,by omega,rfl⟩
  ·apply oN (l.length-(k+1))
   ·simp only[Z8,seval,hI,aZ,q0,gi,ec,c1,c2,c3,c4,g1,g2,b1,b2,b3,g3,bt g4,aGX,g5,hwr,qD,qF];rfl
   ·exact⟨k+1,xM,by simp only[E8,seval,hI],ET,by omega,rfl⟩
 case start=>exact⟨0,-1,by simp only[E8,seval]<;>rfl,.inl rfl,by omega,by omega⟩
 case rest =>
  rintro e st ⟨rfl,xM,h9,ET⟩
  simp only[Z8,seval,h9];exact⟨_,bX rfl (by simp only[E8,seval,h9]<;>rfl) (by first|exact .v _|simp only[dW,h9]),xM,rfl,ET⟩
theorem aRm {s:aM} {v:SV} {q:Int} (h:GI s v q):∃r,aD Tryz.prog 208 [.agg (aB s)]=some r∧∃k:Int,r=.v (.int .i64 k)∧0≤k∧k<v.ns.length:=by
 have hf:=h.sd.flat
 have hn:=h.sd.nn
 obtain⟨r1,e1,w,rfl,hw⟩:=aRa h
 obtain⟨r2,e2,b,rfl,hb⟩:=aRe h
 have k223:∀(st:St) (d:Nat),aN (aD Tryz.prog) 223 [.agg (aB s)] st (some d)=_:=fun st d=>jE (st:=st) (d:=d) (cP hf) e1
 have k224:∀(st:St) (d:Nat),aN (aD Tryz.prog) 224 [.agg (aB s)] st (some d)=_:=fun st d=>jE (st:=st) (d:=d) (cP hf) e2
 have hB:∀i:Int,∃k:Int,aD Tryz.prog 225 [.agg (cU ⟨v.ns⟩),.sl w.length (bF w),.sl b.length (mX b),.v (.int .i64 i)]=some (.v (.int .i64 k))∧(k=-1∨(i<k∧0≤k∧k<v.ns.length)):=fun i=>by
  obtain⟨r,hr,k,rfl,hk⟩:=aRl v.ns h.up h.LW hn w hw b hb i
  exact⟨k,hr,hk⟩
 have kB:∀(i:Int) (k:Int),aD Tryz.prog 225 [.agg (cU ⟨v.ns⟩),.sl w.length (bF w),.sl b.length (mX b),.v (.int .i64 i)]=some (.v (.int .i64 k))→∀(st:St) (g1 g2:Nat) (d:Option Nat),st.heap 8 g1=some (.row 23 1 w.length (bF w))→st.heap 10 g2=some (.row 4 1 b.length (mX b)) →
  aN (aD Tryz.prog) 225 [.agg (cU ⟨v.ns⟩),.own 8 g1,.own 10 g2,.v (.int .i64 i)] st d=some { dst:=d,val:=.v (.int .i64 k)}:=by
  intro i k hk st g1 g2 d hh1 uX;rw[nD,List.map_cons,List.map_cons,List.map_cons,List.map_cons,List.map_nil,Ix,vR,hh1,vQ,vR,uX,ZM,Ql,bT,bT,bT,bT,iD];exact LZ hk
 rw[cL Tryz.func208 rfl aMl rfl];simp only[Z8,seval,k223,k224,h.sd.tree,mS _ _ hn];refine cB (fun m st=>∃i:Int,(st.env 1=.ptr 1 0 0∧st.heap 1 0=some (.cells (aB s))∧st.env 3=.own 8 0∧st.heap 8 0=some (.row 23 1 w.length (bF w))∧st.env 4=.own 10 0∧st.heap 10 0=some (.row 4 1 b.length (mX b))∧st.env 5=.v (.int .i64 i))∧0≤i∧i<v.ns.length∧m=v.ns.length-i.toNat)
  (fun e st=>e=.ret∧∃i:Int,st.env 2=.v (.int .i64 i)∧0≤i∧i<v.ns.length) (v.ns.length-(aP v.ns s.bN.gY.root).toNat) ?step ?start ?rest
 case step =>
  rintro m st ⟨i,hI,i0,i1,hm⟩
  obtain⟨k,hk,hkk⟩:=hB i
  have kb:=kB i k hk
  by_cases aZ:k<0
  ·apply oT (.ret)
   ·simp only[Z8,seval,hI,h.sd.tree,kb,aZ];rfl
   ·exact⟨rfl,i,by simp only[E8,seval],i0,i1⟩
  ·apply oN (v.ns.length-k.toNat)
   ·simp only[Z8,seval,hI,h.sd.tree,kb,aZ];rfl
   ·exact⟨k,by simp only[E8,seval,hI],by omega,by omega,rfl⟩
 case start=>exact⟨_,by simp only[E8,seval]<;>rfl,h.gY,(eY _ _).2,rfl⟩
 case rest =>
  rintro e st ⟨rfl,i,h2,i0,i1⟩
  simp only[Z8,seval];exact⟨_,bX rfl (by simp only[E8,seval,h2]<;>rfl) (by first|exact .v _|simp only[dW,h2]),i,rfl,i0,i1⟩
theorem UO (r:Command):Flat (.agg (eD r))=True:=eq_true (.agg _ (lD r))
theorem aRn {s:aM} {v:SV} {q:Int} (h:GI s v q):∃r,aD Tryz.prog 199 [.agg (aB s)]=some r∧∃c:Command,r=.agg (eD c):=by
 have hf:=h.sd.flat
 obtain⟨r1,e1,k,rfl,k0,k1⟩:=aRm h
 have k208:=kx e1 (cP hf) (.v _)
 obtain⟨r2,e2,r,rfl⟩:=aQ1 h.sd
 have k209:=kx e2 (cP hf) (qT r)
 rw[cL Tryz.func199 rfl aMm rfl];simp only[Z8,seval,k208,k209,h.sd.tree,k0,k1];exact⟨_,fL rfl (by simp only[E8,seval,UO]<;>rfl) (by simp only[Z8,seval,UO]<;>rfl) (by simp only[dW,and_self,UO]),_,rfl⟩
theorem aMn (t:State) (hf:Flat (.agg (aE t))) {v:SV} {q:Int} (h:GI t.store v q):∃r,aD Tryz.prog 181 [.agg (aE t)]=some r∧∃(b:Bool) (c:Command) (y:AV),r=.dZ [.agg (aE { t with Li:=b,last:=c }),y]∧Flat y:=by
 have YO:=h.sd.flat
 have kU:=(oF t).1 hf
 obtain⟨r1,e1,c,rfl⟩:=aRn h
 have aHe:=kx e1 (cP YO) (.agg _ (lD c))
 have hfc:∀x∈eD c,Flat x:=lD c
 have ex:jF (some (.row 56 96 1 (eD c)))=some (.sl 1 (eD c)):=by
  unfold jF;simp only[if_pos hfc]
 rw[cG Tryz.func181 rfl aMo (by kernel_rfl) rfl]
 have D7:Flat (.agg (aE { t with Li:=true,last:=c })):=(oF _).2 kU
 cases g1:t.Li
 ·simp only[ZG,seval,Bool.false_and,Prod.mk.injEq,S8,aHe,g1];exact⟨_,by apply dP;rfl;all_goals simp only[aI,bY,Z8,seval,D7,ex]<;>rfl,true,c,_,rfl,.sl _ _ hfc⟩
 ·by_cases g2:t.last=c
  ·simp only[ZG,seval,Bool.false_and,Prod.mk.injEq,S8,aHe,g1,g2];exact⟨_,by apply dP;rfl;all_goals simp only[aI,bY,Z8,seval,hf]<;>rfl,t.Li,t.last,_,rfl,.v _⟩
  ·simp only[ZG,seval,Bool.false_and,Prod.mk.injEq,S8,aHe,g1,g2];exact⟨_,by apply dP;rfl;all_goals simp only[aI,bY,Z8,seval,D7,ex]<;>rfl,true,c,_,rfl,.sl _ _ hfc⟩
theorem wrap_u64 (x:Int) (h1:0≤x) (h2:x<18446744073709551616):IntKind.u64.wrap x=x:=by
 unfold IntKind.wrap;simp[IntKind.signed,IntKind.bits]
 omega
theorem aMp (o:Option (List Int)) (hn:((ol o).length:Int)≤1000) (hb:∀x∈ol o,0≤x∧x≤1000):∃a:Int,aD Tryz.prog 175 [ov bF o]=some (.dZ [.v (.int .u64 a),.v (.int .i64 0)])∧0≤a∧a≤1000000:=by
 suffices h:∃r,aD Tryz.prog 175 [ov bF o]=some r∧∃a:Int,r=.dZ [.v (.int .u64 a),.v (.int .i64 0)]∧0≤a∧a≤1000000 by
  obtain⟨r,h,a,rfl,h1⟩:=h;exact⟨a,h,h1⟩
 have add:∀(a:Int) (k:Nat),0≤a∧a≤1000 * k→k<(ol o).length→BN a (gx (0:Int) (ol o) (k:Int))=(a+gx (0:Int) (ol o) (k:Int),0)∧0≤a+gx (0:Int) (ol o) (k:Int)∧a+gx (0:Int) (ol o) (k:Int)≤1000 * ((k+1:Nat):Int):=by
  intro a k ha hk;have hx:=hb _ (vP (z:=(0:Int)) (show (0:Int)≤k by omega) (show (k:Int)<(ol o).length by omega))
  obtain⟨x,ex⟩:∃x,gx (0:Int) (ol o) (k:Int)=x:=⟨_,rfl⟩
  rw[ex] at hx ⊢;have w1:IntKind.u64.wrap (18446744073709551615-x)=18446744073709551615-x:=wrap_u64 _ (by omega) (by omega)
  have w2:IntKind.u64.wrap (a+x)=a+x:=wrap_u64 _ (by omega) (by omega)
  unfold BN;rw[w1,w2,if_neg (by omega)]
  exact⟨rfl,by omega,by omega⟩
 rw[cL Tryz.func175 rfl aFD (by cases o<;>rfl)]
 simp only[Z8,seval];refine cB (fun m st=>∃(k:Nat) (a:Int),(st.env 0=ov bF o∧st.env 4=.v (.int .u64 a)∧st.env 5=.v (.int .i64 k))∧(0≤a∧a≤1000 * k)∧k≤(ol o).length∧m=(ol o).length-k)
  (fun e st=>e=.exit 0∧∃a:Int,st.env 4=.v (.int .u64 a)∧0≤a∧a≤1000000) (ol o).length ?step ?start ?rest
 case step =>
  rintro m st ⟨k,a,hI,ha,hk,hm⟩
  by_cases aZ:(k:Int)<(ol o).length
  ·have q0:(0:Int)≤k:=by omega
   have hw:IntKind.i64.wrap ((k:Int)+1)=((k+1:Nat):Int):=by rw[pM _ (by omega) (by omega)];omega
   obtain⟨h1,h2⟩:=add a k ha (by omega)
   apply oN ((ol o).length-(k+1))
   ·simp only[Z8,seval,hI,aZ,q0,aGJ,eC,h1,hw];rfl
   ·exact⟨k+1,_,by simp only[E8,seval,hI]<;>rfl,h2,by omega,rfl⟩
  ·apply oT (.exit 0)
   ·simp only[Z8,seval,hI,aZ];rfl
   ·exact⟨rfl,a,by simp only[E8,seval,hI],by omega⟩
 case start=>exact⟨0,0,by simp only[E8,seval]<;>exact⟨rfl,rfl⟩,by omega,by omega,by omega⟩
 case rest =>
  rintro e st ⟨rfl,a,h,ha⟩
  simp only[Z8,seval,h];exact⟨_,dP rfl rfl rfl (by simp only[E8,seval,h]<;>rfl) (by simp only[E8,seval,h]<;>rfl),_,rfl,ha⟩
theorem aMq (t:Table) (b:Option (List Int)) (ht:t.jP=ov bF b) (hn:((ol b).length:Int)≤1000) (hb:∀x∈ol b,0≤x∧x≤1000):aD Tryz.prog 130 [.agg (cI t),.v (.int .i64 (ol b).length)]=some (.v (.int .i64 0)):=by
 obtain⟨a,hr,a0,a1⟩:=aMp b hn hb
 have C5:=kx hr (cP (dU b)) (.dZ _ (bI (.v _) (.v _)))
 rw[cL Tryz.func130 rfl aFF rfl];refine kN ?_
 have h3:(4611686018427387904<a)=False:=eq_false (by omega)
 simp only[Z8,seval,ht,bt (rfl:((ol b).length:Int)=(ol b).length),C5,eC,h3];exact⟨_,bX rfl (by simp only[E8,seval]<;>rfl) (by first|exact .v _|simp only[dW]),rfl⟩
theorem aC3:mkRoot 1≠dO:=by decide
structure Sy (c:Config) (b:List Int):Prop where
 jP:c.jP=ov bF (some b)
 nb:1≤b.length∧b.length≤64
 bv:∀x∈b,0≤x∧x≤1000
 rD:1≤c.rD∧c.rD≤64
 bp:c.Hf≤100
 sO:1≤c.mL.sO∧c.mL.sO≤4096
 wU:0≤c.mL.wU∧c.mL.wU≤64
 qG:0≤c.mL.qG∧c.mL.qG≤256
 rE:1≤c.mL.rE∧c.mL.rE≤64
 oI:0≤c.mL.oI∧c.mL.oI≤256
 back:1≤c.mL.rU∧c.mL.rU≤1048576
 gen:c.iA=mkRoot 1
 n6:6≤c.mL.sO
theorem aHf (n:Nat):((List.range n).flatMap fun _=>jQ tT)=cO (List.replicate n tT):=by
 induction n with
 | zero=>rfl
 | succ n ih=>rw[List.range_succ,List.flatMap_append,ih,List.replicate_succ',cO,cO,List.flatMap_append];simp
theorem NA (t:Table):aR [t]=cI t:=by simp[aR]
def aC4 (c:Config):Block:={ fP with root:=c.iA,gY:=⟨0,c.iA⟩,fin:=⟨0,c.iA⟩,dQ:=⟨⟨0,c.iA⟩,⟨0,c.iA⟩⟩}
def D9 (c:Config) (b:List Int):aM:=⟨c,⟨ov cO (some (List.replicate b.length tT)),.v (.slice none 0 0)⟩,⟨⟨0,c.iA⟩,⟨0,c.iA⟩⟩,Ep,⟨.sl 1 (cF [⟨aC4 c,-1,1⟩])⟩,0,dO,ov aR (some [⟨⟨0,c.iA⟩,ov bF (some b)⟩])⟩
def S9 (c:Config) (b:List Int):SV:={ B:=some b,L:=some (List.replicate b.length tT),Q:=none,E:=none,O:=none,ns:=[⟨aC4 c,-1,1⟩],T:=some [⟨⟨0,c.iA⟩,ov bF (some b)⟩]}
theorem GI.new {c:Config} {b:List Int} (h:Sy c b):GI (D9 c b) (S9 c b) 0:=by
 have hb:=h.nb
 refine⟨⟨h.jP,rfl,rfl,rfl,rfl,rfl,rfl, ?_, ?_, ?_, ?_, ?_, ?_, ?_, ?_, ?_⟩, ?_, ?_, ?_, ?_,h.sO.2,h.rD, ?_, ?_, ?_,h.wU.2, ?_,h.qG.2, ?_,h.rE.2, ?_,by omega, ?_⟩
 ·intro a ha;cases ha
 ·intro t ht;rw[show t=⟨⟨0,c.iA⟩,ov bF (some b)⟩ by simpa [S9,ol] using ht]
  exact⟨some b,rfl,by show (b.length:Int)<_;omega⟩
 ·show (b.length:Int)<_;omega
 ·show ((List.replicate b.length tT).length:Int)<_;rw[List.length_replicate];omega
 ·show ((0:Nat):Int)<_;omega
 ·show ((0:Nat):Int)<_;omega
 ·show ((0:Nat):Int)<_;omega
 ·show ((1:Nat):Int)<_;omega
 ·show ((1:Nat):Int)<_;omega
 ·intro i h0 h1;have:i<((1:Nat):Int):=h1;omega
 ·rfl
 ·show 0<1;omega
 ·show ((1:Nat):Int)≤c.mL.sO;have:=h.sO.1;omega
 ·show (List.replicate b.length tT).length=b.length;rw[List.length_replicate]
 ·show (b.length:Int)≤1024;omega
 ·show ((0:Nat):Int)≤c.mL.wU;have:=h.wU.1;omega
 ·show ((0:Nat):Int)≤c.mL.qG;have:=h.qG.1;omega
 ·show ((1:Nat):Int)≤c.mL.rE;have:=h.rE.1;omega
 ·show ((0:Nat):Int)≤0;omega
 ·exact Nr (j:=0) (by omega) (by show (0:Int)<((1:Nat):Int);omega) rfl
theorem aRo {c:Config} {b:List Int} (h:Sy c b):aD Tryz.prog 102 [.agg (bV c)]=some (.dZ [.agg (aB (D9 c b)),.v (.int .i64 0)]):=by
 obtain⟨hbal,hnb,hbv,hspe,hbp,h1,h2,h3,h4,h5,h6,hg0,_⟩:=h
 have hg:c.iA≠dO:=by rw[hg0];exact aC3
 have f1:=hspe.1;have f2:¬64<c.rD:=by omega
 have f1':¬c.rD<1:=by omega
 have f3:¬100<c.Hf:=by omega
 have f4:¬(1024:Int)<(b.length:Int):=by omega
 have f6:¬c.mL.rU<1:=by omega
 have f7:¬1048576<c.mL.rU:=by omega
 have n1:((ol (some b)).length:Int)<1000000:=by show (b.length:Int)<_;omega
 have hb0:(0:Int)≤(b.length:Int):=by omega
 have TC:(b.length:Int) * 48≤140737488355328:=by omega
 have YM:(b.length:Int)≤(maxLen:Int):=by unfold maxLen;omega
 have zE:gZ.aK=0:=rfl
 have kt:∀(st:St) (d:Option Nat),aN (aD Tryz.prog) 130 [.agg (cI ⟨⟨0,c.iA⟩,ov bF (some b)⟩),.v (.int .i64 b.length)] st d=some { dst:=d,val:=.v (.int .i64 0)}:=kx (aMq ⟨⟨0,c.iA⟩,ov bF (some b)⟩ (some b) rfl (by show (b.length:Int)≤_;omega) hbv) (bI ((kM ⟨⟨0,c.iA⟩,ov bF (some b)⟩).2 (dU (some b))) (.v _)) (.v _)
 have aG3:=kx (aLE ⟨⟨0,c.iA⟩,ov bF (some b)⟩ (some b) rfl n1) (cP ((kM ⟨⟨0,c.iA⟩,ov bF (some b)⟩).2 (dU (some b)))) ((kM ⟨⟨0,c.iA⟩,ov bF (some b)⟩).2 (dU (some b)))
 rw[cL Tryz.func102 rfl aMr rfl];refine kN ?_
 simp only[Z8,seval,qD,qF,hbal,f1',f2,f3,f4,f6,f7,aP0,h1.1,h1.2,h2.1,h2.2,h3.1,h3.2,h4.1,h4.2,h5.1,h5.2,hg,zE,kt,hb0,TC,YM,Int.toNat_natCast,aHf,aG3,aPQ,Eo b (show (b.length:Int)<1000000 by omega)]
 have exT:=Nq 1 [⟨⟨0,c.iA⟩,ov bF (some b)⟩] (by intro y hy;rw[List.mem_singleton] at hy;subst hy;exact dU (some b))
 rw[NA] at exT;have hcc:∀x,x=c.jP→({ mL:=c.mL,rD:=c.rD,Hf:=c.Hf,BP:=c.BP,iA:=c.iA,jP:=x }:Config)=c:=by rintro _ rfl;rfl
 have zs:gL.gG.gX=.v (.slice none 0 0)∧gL.dV.early=.v (.slice none 0 0)∧gL.dV.bW=.v (.slice none 0 0):=⟨rfl,rfl,rfl⟩
 exact⟨_,by apply dP;rfl;all_goals simp only[aI,bY,Z8,seval,bR,gH,bG,vQ,Vg,exT,cH,dW,zs]<;>rfl,by unfold D9;simp only[ov,List.length_replicate,NA,hcc (.sl b.length (bF b)) hbal.symm]<;>rfl⟩
end Go.Ab.Tryz
section
namespace Go.Ab
open Classical
theorem Iy [Ext] (P:Program) {f:Nat} {fn:Func} {c:Code} (hf:P.funcs[f]? = some fn) (hb:fn.body=some c) (sK:bJ fn=true) (e sz m:Nat) (cs xs:List AV) (hx:Ext.ext f (.uniq e sz m cs :: xs)=none) :
 aD P f (.uniq e sz m cs :: xs)=cC (zF P c (St.oB e sz m cs xs)) (E0 P fn):=by
 simp only[bJ,hb,Bool.and_eq_true,Bool.not_eq_true'] at sK;rw[Xk P hf hb sK.1 e sz m cs xs hx,sK.2];rfl
theorem ZN [Ext] (P:Program) {f:Nat} {fn:Func} {c:Code} (hf:P.funcs[f]? = some fn) (hb:fn.body=some c) (sK:tX fn=true) (hc:lI c=true) (e sz m:Nat) (cs xs:List AV) (hx:Ext.ext f (.uniq e sz m cs :: xs)=none) :
 aD P f (.uniq e sz m cs :: xs)=cC (wL P true c (St.oB e sz m cs xs)) (E0 P fn):=by
 rw[Xk P hf hb sK e sz m cs xs hx,hc]
theorem zO [Ext] {P:Program} {fn:Func} {st:St} {e:Ex} {t s g ee sz n:Nat} {cs:List AV} (he:e=.ret∨e=.normal) (hr:fn.results.toList=[.tmp t]) (h1:st.env t=.own s g) (h2:st.heap s g=some (.row ee sz n cs)) (hm:∀c∈cs,fJ c) :
 E0 P fn (e,st)=some (.uniq ee sz n cs):=NB he hr (by unfold iI;simp only[h1]) h2 hm
end Go.Ab
namespace Go.Ab.Tryz
open Classical Go.Proofs Go.Ab
theorem zP (l:List Int):∀c∈kI l,fJ c:=by
 intro c hc;unfold kI at hc;obtain⟨x,_,hx⟩:=List.mem_flatMap.1 hc
 rw[cU8,List.mem_singleton] at hx;subst hx;exact .v _
def Wr (F:Nat) (rest:List AV) (K:Int):Prop:=∀l:List Int,(l.length:Int)+K<900000→∃m:List Int,aD Tryz.prog F (.uniq 5 1 l.length (kI l) :: rest)=some (.uniq 5 1 m.length (kI m))∧(m.length:Int)≤l.length+K
def WrN (F:Nat) (rest:List AV) (K:Int):Prop:=∃m:List Int,aD Tryz.prog F (.v (.slice none 0 0) :: rest)=some (.uniq 5 1 m.length (kI m))∧(m.length:Int)≤K
theorem Wr.at {F:Nat} {rest:List AV} {K:Int} (h:Wr F rest K) (hr:∀x∈rest,Flat x) {l:List Int} (hl:(l.length:Int)+K<900000) :
 ∃m:List Int,(∀s k d c,mvE (aD Tryz.prog) F rest s k d c (some (.row 5 1 l.length (kI l)))=some { dst:=some d,val:=.own d c,dM:=some (s,k,none),new:=some (d,[.row 5 1 m.length (kI m)])})∧(m.length:Int)≤l.length+K:=by
 obtain⟨m,h1,h2⟩:=h l hl
 exact⟨m,fun s k d c=>NC (vS l) hr h1,h2⟩
theorem WrN.at {F:Nat} {rest:List AV} {K:Int} (h:WrN F rest K) (hr:∀x∈rest,Flat x) :
 ∃m:List Int,(∀(st:St) (d:Nat),jV (aD Tryz.prog) F (.v (.slice none 0 0) :: rest) st (some d)=some { dst:=some d,val:=.own d (st.aO d),new:=some (d,[.row 5 1 m.length (kI m)])})∧(m.length:Int)≤K:=by
 obtain⟨m,h1,h2⟩:=h
 exact⟨m,fun st d=>UP hr h1,h2⟩
def tb:Nat→Int
 | 0=>18446744073709551616
 | k+1=>tb k / 128+1
theorem tb9:tb 9=3:=by decide
theorem ZO (x:Int):x.fdiv (2 ^ min 7 IntKind.u64.bits)=x / 128:=by
 show x.fdiv 128=x / 128
 exact Int.fdiv_eq_ediv_of_nonneg x (by decide)
theorem aC5 (l:List Int):kI l=l.map fun x=>.v (.int .u8 x):=by
 induction l with
 | nil=>rfl
 | cons a l ih=>simp only[kI,List.flatMap_cons,List.map_cons,cU8] at *;rw[ih];rfl
theorem ND (r:cK):aX r=kI r.toList:=by rw[aC5];rfl
theorem Vk {P:Program} {T:Nat} {k:IntKind} {a b:Int}:fS P .or T (.v (.int k a)) (.v (.int k b))=some (.v (.int k (k.wrap (BitVec.ofInt k.bits a ||| BitVec.ofInt k.bits b).toNat))):=by simp[fS]
theorem aMt:dN Tryz.prog 27=none:=by kernel_rfl
theorem aMu (r:cK) (st:St) (s g o:Nat) (h:st.heap s g=some (.cells (aX r))):cS Tryz.prog st 27 (.ptr s g o) none none=some (.vw s g o 32):=by
 simp only[cS,aMt,aGW,h]
theorem T3 (st:St) (s g:Nat) (r:cK) (h:st.heap s g=some (.cells (aX r))):aQ st (.vw s g 0 32)=some (r.toList.length,kI r.toList):=by
 have hl:(aX r).length=32:=aL r
 simp only[aQ,h,Nat.zero_add,List.drop_zero];rw[if_pos (by omega),List.take_of_length_le (by omega),ND]
 simp
theorem Xl (n:Int) (hn:Rg n):Wr 215 [.v (.int .u64 n)] 10:=by
 intro l hl;suffices h:∃r,aD Tryz.prog 215 [.uniq 5 1 l.length (kI l),.v (.int .u64 n)]=some r∧∃m:List Int,r=.uniq 5 1 m.length (kI m)∧(m.length:Int)≤l.length+10 by
  obtain⟨r,h,m,rfl,h2⟩:=h;exact⟨m,h,h2⟩
 rw[Iy Tryz.prog Tryz.func215 rfl aFQ _ _ _ _ _ (sP _ _)];simp only[Z8,seval,jC,mI,jD,kX,mJ];refine cB (fun m st=>∃(x:Int) (k:Nat) (l':List Int) (a g:Nat),(st.env 0=.own a g∧st.heap a g=some (.row 5 1 l'.length (kI l'))∧st.env 1=.v (.int .u64 x))∧((a=0∧g=0)∨(a=13∧g<st.aO 13))∧l'.length=l.length+k∧0≤x∧x<tb k∧k≤9∧m=x.toNat)
  (fun e st=>e=.exit 0∧∃(x:Int) (l':List Int) (a g:Nat),(st.env 0=.own a g∧st.heap a g=some (.row 5 1 l'.length (kI l'))∧st.env 1=.v (.int .u64 x))∧a≠19∧(l'.length:Int)≤l.length+9) n.toNat ?step ?start ?rest
 case step =>
  rintro m st ⟨x,k,l',a,g,hI,GY,Gj,x0,hx,hk,hm⟩
  by_cases aZ:127<x
  ·have hk8:k≤8:=by
    rcases Nat.lt_or_ge k 9 with h|h
    ·omega
    ·have:k=9:=by omega
     subst this;rw[tb9] at hx;omega
   have Qe:(l'.length:Int)<1000000:=by omega
   have Iz:x / 128<tb (k+1):=by show x / 128<tb k / 128+1;omega
   have ll:∀b:Int,(l'++[b]).length=l.length+(k+1):=fun b=>by rw[List.length_append,List.length_cons,List.length_nil];omega
   rcases GY with ⟨rfl,rfl⟩|⟨rfl,hg⟩
   ·apply oN ((x / 128).toNat)
    ·simp only[Z8,seval,hI,aZ,Vk,Lj _ _ _ _ Qe,ZO];rfl
    ·exact⟨x / 128,k+1,_,13,_,by and_intros<;>(simp only[E8,seval]<;>rfl),.inr ⟨rfl,by simp only[E8,seval]<;>omega⟩,ll _,by omega,Iz,by omega,rfl⟩
   ·have vA:(g=st.aO 13)=False:=eq_false (by omega)
    apply oN ((x / 128).toNat)
    ·simp only[Z8,seval,hI,aZ,vA,Vk,Lj _ _ _ _ Qe,ZO];rfl
    ·exact⟨x / 128,k+1,_,13,_,by and_intros<;>(simp only[E8,seval]<;>rfl),.inr ⟨rfl,by simp only[E8,seval]<;>omega⟩,ll _,by omega,Iz,by omega,rfl⟩
  ·apply oT (.exit 0)
   ·simp only[Z8,seval,hI,aZ];rfl
   ·exact⟨rfl,x,l',a,g,by simp only[E8,seval,hI],by omega,by omega⟩
 case start=>exact⟨n,0,l,0,0,by simp only[E8,seval,jC,mI,jD,kX,mJ]<;>rfl,.inl ⟨rfl,rfl⟩,rfl,hn.1,hn.2,by omega,rfl⟩
 case rest =>
  rintro e st ⟨rfl,x,l',a,g,hI,ha,Gj⟩
  have ha':(a=19)=False:=eq_false ha
  have Qe:(l'.length:Int)<1000000:=by omega
  simp only[Z8,seval,hI,ha',Lj _ _ _ _ Qe];exact⟨_,zO (.inl rfl) rfl (by simp only[E8,seval]<;>rfl) (by simp only[E8,seval]<;>rfl) (zP _),_,rfl,by rw[List.length_append,List.length_cons,List.length_nil];omega⟩
theorem E1 (n:Int) (hn:Rg n):WrN 215 [.v (.int .u64 n)] 10:=by
 suffices h:∃r,aD Tryz.prog 215 [.v (.slice none 0 0),.v (.int .u64 n)]=some r∧∃m:List Int,r=.uniq 5 1 m.length (kI m)∧(m.length:Int)≤10 by
  obtain⟨r,h,m,rfl,h2⟩:=h;exact⟨m,h,h2⟩
 rw[cL Tryz.func215 rfl aFQ rfl];simp only[Z8,seval];refine cB (fun m st=>∃(x:Int) (k:Nat),st.env 1=.v (.int .u64 x)∧((k=0∧st.env 0=.v (.slice none 0 0))∨∃(l':List Int) (g:Nat),(st.env 0=.own 13 g∧st.heap 13 g=some (.row 5 1 l'.length (kI l')))∧g<st.aO 13∧l'.length=k)∧0≤x∧x<tb k∧k≤9∧m=x.toNat)
  (fun e st=>e=.exit 0∧∃(x:Int),st.env 1=.v (.int .u64 x)∧(st.env 0=.v (.slice none 0 0)∨∃(l':List Int) (g:Nat),(st.env 0=.own 13 g∧st.heap 13 g=some (.row 5 1 l'.length (kI l')))∧(l'.length:Int)≤9)) n.toNat ?step ?start ?rest
 case step =>
  rintro m st ⟨x,k,hI,h0,x0,hx,hk,hm⟩
  by_cases aZ:127<x
  ·have hk8:k≤8:=by
    rcases Nat.lt_or_ge k 9 with h|h
    ·omega
    ·have:k=9:=by omega
     subst this;rw[tb9] at hx;omega
   have Iz:x / 128<tb (k+1):=by show x / 128<tb k / 128+1;omega
   rcases h0 with ⟨vI,h0⟩|⟨l',g,h0,hg,Gj⟩
   ·have ll:∀b:Int,([b]:List Int).length=k+1:=fun b=>by rw[List.length_cons,List.length_nil];omega
    apply oN ((x / 128).toNat)
    ·simp only[Z8,seval,hI,h0,aZ,Vk,UQ,ZO];rfl
    ·exact⟨x / 128,k+1,by simp only[E8,seval],.inr ⟨_,_,⟨by simp only[E8,seval]<;>rfl,by simp only[E8,seval]<;>rfl⟩,by simp only[E8,seval]<;>omega,ll _⟩,by omega,Iz,by omega,rfl⟩
   ·have Qe:(l'.length:Int)<1000000:=by omega
    have ll:∀b:Int,(l'++[b]).length=k+1:=fun b=>by rw[List.length_append,List.length_cons,List.length_nil];omega
    have vA:(g=st.aO 13)=False:=eq_false (by omega)
    apply oN ((x / 128).toNat)
    ·simp only[Z8,seval,hI,h0,aZ,vA,Vk,Lj _ _ _ _ Qe,ZO];rfl
    ·exact⟨x / 128,k+1,by simp only[E8,seval],.inr ⟨_,_,⟨by simp only[E8,seval]<;>rfl,by simp only[E8,seval]<;>rfl⟩,by simp only[E8,seval]<;>omega,ll _⟩,by omega,Iz,by omega,rfl⟩
  ·have h0':st.env 0=.v (.slice none 0 0)∨∃(l':List Int) (g:Nat),(st.env 0=.own 13 g∧st.heap 13 g=some (.row 5 1 l'.length (kI l')))∧(l'.length:Int)≤9:=by
    rcases h0 with ⟨_,h0⟩|⟨l',g,h0,hg,Gj⟩
    ·exact .inl h0
    ·exact .inr ⟨l',g,h0,by omega⟩
   apply oT (.exit 0)
   ·simp only[Z8,seval,hI,aZ];rfl
   ·exact⟨rfl,x,by simp only[E8,seval,hI],by simpa only[E8,seval] using h0'⟩
 case start=>exact⟨n,0,by simp only[E8,seval]<;>rfl,.inl ⟨rfl,by simp only[E8,seval]<;>rfl⟩,hn.1,hn.2,by omega,rfl⟩
 case rest =>
  rintro e st ⟨rfl,x,hI,h0⟩
  rcases h0 with h0|⟨l',g,h0,Gj⟩
  ·simp only[Z8,seval,hI,h0,UQ];exact⟨_,Xm (n:=([IntKind.u8.wrap x]:List Int).length) (cs:=kI [IntKind.u8.wrap x]) (aI (by decide)) (.inl rfl) rfl (by simp only[E8,seval]<;>rfl) (by simp only[E8,seval]<;>rfl) (vS _),_,rfl,by rw[List.length_cons,List.length_nil];omega⟩
  ·have Qe:(l'.length:Int)<1000000:=by omega
   simp only[Z8,seval,hI,h0,Lj _ _ _ _ Qe];exact⟨_,tD rfl (by simp only[E8,seval]<;>rfl) (by simp only[E8,seval]<;>rfl) (vS _),_,rfl,by rw[List.length_append,List.length_cons,List.length_nil];omega⟩
theorem GZ (r:cK):Wr 226 [.agg (aX r)] 32:=by
 intro l hl;suffices h:∃x,aD Tryz.prog 226 [.uniq 5 1 l.length (kI l),.agg (aX r)]=some x∧∃m:List Int,x=.uniq 5 1 m.length (kI m)∧(m.length:Int)≤l.length+32 by
  obtain⟨r,h,m,rfl,h2⟩:=h;exact⟨m,h,h2⟩
 have Qe:(l.length:Int)<1000000:=by omega
 have hc:aX r=kI r.toList:=ND r
 have hr:(r.toList.length:Int)<1000000:=by simp
 rw[Iy Tryz.prog Tryz.func226 rfl aMv _ _ _ _ _ (sP _ _)];simp only[Z8,seval,jC,mI,jD,kX,mJ,aMu r,T3 _ _ _ r,UR _ _ _ _ Qe hr];exact⟨_,zO (.inl rfl) rfl (by simp only[E8,seval]<;>rfl) (by simp only[E8,seval]<;>rfl) (zP _),_,rfl,by rw[List.length_append];simp⟩
theorem T4 (c:fV) (h:Rg c.aK):Wr 228 [.agg (bZ c)] 42:=by
 intro l hl;suffices h:∃r,aD Tryz.prog 228 [.uniq 5 1 l.length (kI l),.agg (bZ c)]=some r∧∃m:List Int,r=.uniq 5 1 m.length (kI m)∧(m.length:Int)≤l.length+42 by
  obtain⟨r,h,m,rfl,h2⟩:=h;exact⟨m,h,h2⟩
 obtain⟨m1,e1,b1⟩:=(Xl c.aK h).at (cP (.v _)) (l:=l) (by omega)
 obtain⟨m2,e2,b2⟩:=(GZ c.root).at (cP (qT _)) (l:=m1) (by omega)
 rw[ZN Tryz.prog Tryz.func228 rfl aMw (by kernel_rfl) _ _ _ _ _ (sP _ _)]
 simp only[ZG,seval,Bool.false_and,Prod.mk.injEq,aMx,jC,mI,jD,kX,mJ,e1,e2];exact⟨_,zO (.inl rfl) rfl (by simp only[E8,seval]<;>rfl) (by simp only[E8,seval]<;>rfl) (zP _),_,rfl,by omega⟩
end Go.Ab.Tryz
end
namespace Go.Ab.Tryz
open Classical Go.Proofs Go.Ab
theorem aMy (o p:Option (List Int)) (hn:((ol o).length:Int)<1000000):∃r,aD Tryz.prog 105 [ov aJ o,ov aJ p]=some r∧∃b:Bool,r=.v (.bool b):=by
 rw[cL Tryz.func105 rfl aFR (by cases o<;>cases p<;>rfl)]
 by_cases g:((ol o).length:Int)=((ol p).length:Int)
 case neg =>
  simp only[Z8,seval,bf g];exact⟨_,bX rfl (by simp only[E8,seval]<;>rfl) (by first|exact .v _|simp only[dW]),_,rfl⟩
 simp only[Z8,seval,bt g];refine cB (fun m st=>∃k:Nat,(st.env 0=ov aJ o∧st.env 1=ov aJ p∧st.env 5=.v (.int .i64 k))∧k≤(ol o).length∧m=(ol o).length-k)
  (fun e st=>(e=.ret∧st.env 4=.v (.bool false))∨e=.exit 0) (ol o).length ?step ?start ?rest
 case step =>
  rintro m st ⟨k,hI,hk,hm⟩
  by_cases aZ:(k:Int)<(ol o).length
  ·have q0:(0:Int)≤k:=by omega
   have q1:(k:Int)<((ol p).length:Int):=by omega
   have hw:IntKind.i64.wrap ((k:Int)+1)=((k+1:Nat):Int):=by rw[pM _ (by omega) (by omega)];omega
   by_cases hh:gx (0:Int) (ol o) (k:Int)=gx (0:Int) (ol p) (k:Int)
   ·apply oN ((ol o).length-(k+1))
    ·simp only[Z8,seval,hI,aZ,q0,q1,bt hh,hw];rfl
    ·exact⟨k+1,by simp only[E8,seval,hI],by omega,rfl⟩
   ·apply oT (.ret)
    ·simp only[Z8,seval,hI,aZ,q0,q1,bf hh];rfl
    ·exact .inl ⟨rfl,by simp only[E8,seval]⟩
  ·apply oT (.exit 0)
   ·simp only[Z8,seval,hI,aZ];rfl
   ·exact .inr rfl
 case start=>exact⟨0,by simp only[E8,seval]<;>rfl,by omega,by omega⟩
 case rest =>
  rintro e st (⟨rfl,h⟩|rfl)
  ·simp only[Z8,seval,h];exact⟨_,bX rfl (by simp only[E8,seval,h]<;>rfl) (by first|exact .v _|simp only[dW,h]),_,rfl⟩
  ·simp only[Z8,seval];exact⟨_,bX rfl (by simp only[E8,seval]<;>rfl) (by first|exact .v _|simp only[dW]),_,rfl⟩
theorem aRp (o p:Option (List Int)) (hn:((ol o).length:Int)<1000000):∃r,aD Tryz.prog 103 [ov bF o,ov bF p]=some r∧∃b:Bool,r=.v (.bool b):=by
 rw[cL Tryz.func103 rfl aFS (by cases o<;>cases p<;>rfl)]
 by_cases g:((ol o).length:Int)=((ol p).length:Int)
 case neg =>
  simp only[Z8,seval,bf g];exact⟨_,bX rfl (by simp only[E8,seval]<;>rfl) (by first|exact .v _|simp only[dW]),_,rfl⟩
 simp only[Z8,seval,bt g];refine cB (fun m st=>∃k:Nat,(st.env 0=ov bF o∧st.env 1=ov bF p∧st.env 5=.v (.int .i64 k))∧k≤(ol o).length∧m=(ol o).length-k)
  (fun e st=>(e=.ret∧st.env 4=.v (.bool false))∨e=.exit 0) (ol o).length ?step ?start ?rest
 case step =>
  rintro m st ⟨k,hI,hk,hm⟩
  by_cases aZ:(k:Int)<(ol o).length
  ·have q0:(0:Int)≤k:=by omega
   have q1:(k:Int)<((ol p).length:Int):=by omega
   have hw:IntKind.i64.wrap ((k:Int)+1)=((k+1:Nat):Int):=by rw[pM _ (by omega) (by omega)];omega
   by_cases hh:gx (0:Int) (ol o) (k:Int)=gx (0:Int) (ol p) (k:Int)
   ·apply oN ((ol o).length-(k+1))
    ·simp only[Z8,seval,hI,aZ,q0,q1,bt hh,hw];rfl
    ·exact⟨k+1,by simp only[E8,seval,hI],by omega,rfl⟩
   ·apply oT (.ret)
    ·simp only[Z8,seval,hI,aZ,q0,q1,bf hh];rfl
    ·exact .inl ⟨rfl,by simp only[E8,seval]⟩
  ·apply oT (.exit 0)
   ·simp only[Z8,seval,hI,aZ];rfl
   ·exact .inr rfl
 case start=>exact⟨0,by simp only[E8,seval]<;>rfl,by omega,by omega⟩
 case rest =>
  rintro e st (⟨rfl,h⟩|rfl)
  ·simp only[Z8,seval,h];exact⟨_,bX rfl (by simp only[E8,seval,h]<;>rfl) (by first|exact .v _|simp only[dW,h]),_,rfl⟩
  ·simp only[Z8,seval];exact⟨_,bX rfl (by simp only[E8,seval]<;>rfl) (by first|exact .v _|simp only[dW]),_,rfl⟩
theorem aRq (a b:sJ) (ha:Cs a) (hb:Cs b):∃r,aD Tryz.prog 108 [.agg (hU a),.agg (hU b)]=some r∧∃b:Bool,r=.v (.bool b):=by
 obtain⟨V,hV,nV⟩:=ha
 obtain⟨W,hW,nW⟩:=hb
 obtain⟨r1,e1,B,rfl⟩:=aMy V W nV
 have T5:=kx e1 (bI (bQ V) (bQ W)) (.v _)
 rw[cL Tryz.func108 rfl aFT rfl];by_cases g1:a.slot=b.slot
 case neg =>
  simp only[Z8,seval,hV,hW,bf g1];exact⟨_,bX rfl (by simp only[E8,seval]<;>rfl) (by first|exact .v _|simp only[dW]),_,rfl⟩
 by_cases g2:a.root=b.root
 case neg =>
  simp only[Z8,seval,hV,hW,bt g1,g2];exact⟨_,bX rfl (by simp only[E8,seval]<;>rfl) (by first|exact .v _|simp only[dW]),_,rfl⟩
 by_cases g3:a.target=b.target
 case neg =>
  simp only[Z8,seval,hV,hW,bt g1,g2,g3];exact⟨_,bX rfl (by simp only[E8,seval]<;>rfl) (by first|exact .v _|simp only[dW]),_,rfl⟩
 simp only[Z8,seval,hV,hW,bt g1,g2,g3,T5];exact⟨_,bX rfl (by simp only[E8,seval]<;>rfl) (by first|exact .v _|simp only[dW]),_,rfl⟩
theorem aRr (a b:Table) (ha:sN a) (hb:sN b):∃r,aD Tryz.prog 159 [.agg (cI a),.agg (cI b)]=some r∧∃b:Bool,r=.v (.bool b):=by
 obtain⟨V,hV,nV⟩:=ha
 obtain⟨W,hW,nW⟩:=hb
 obtain⟨r1,e1,B,rfl⟩:=aRp V W nV
 have aC6:=kx e1 (bI (dU V) (dU W)) (.v _)
 rw[cL Tryz.func159 rfl aFU rfl];by_cases g1:a.ck=b.ck
 case neg =>
  simp only[Z8,seval,hV,hW,g1];exact⟨_,bX rfl (by simp only[E8,seval]<;>rfl) (by first|exact .v _|simp only[dW]),_,rfl⟩
 simp only[Z8,seval,hV,hW,g1,aC6];exact⟨_,bX rfl (by simp only[E8,seval]<;>rfl) (by first|exact .v _|simp only[dW]),_,rfl⟩
def wX (a:Claim):Prop:=∃V:Option (List Int),a.eW=ov aJ V∧((ol V).length:Int)≤1000
theorem wX.fl {a:Claim} (h:wX a):Flat (.agg (gO a)):=by obtain⟨V,h,_⟩:=h;exact (zL a).2 (by rw[h];exact bQ V)
theorem aMz (a b:Claim) (ha:wX a) (hb:wX b):∃r,aD Tryz.prog 232 [.agg (gO a),.agg (gO b)]=some r∧∃b:Bool,r=.v (.bool b):=by
 obtain⟨V,hV,nV⟩:=ha
 obtain⟨W,hW,nW⟩:=hb
 obtain⟨r1,e1,B,rfl⟩:=aMy V W (by omega)
 have T5:=kx e1 (bI (bQ V) (bQ W)) (.v _)
 rw[cL Tryz.func232 rfl aMA rfl];by_cases g1:a.source=b.source
 case neg =>
  simp only[Z8,seval,hV,hW,bf g1];exact⟨_,bX rfl (by simp only[E8,seval]<;>rfl) (by first|exact .v _|simp only[dW]),_,rfl⟩
 by_cases g2:a.target=b.target
 case neg =>
  simp only[Z8,seval,hV,hW,bt g1,bf g2];exact⟨_,bX rfl (by simp only[E8,seval]<;>rfl) (by first|exact .v _|simp only[dW]),_,rfl⟩
 by_cases g3:a.root=b.root
 case neg =>
  simp only[Z8,seval,hV,hW,bt g1,bt g2,g3];exact⟨_,bX rfl (by simp only[E8,seval]<;>rfl) (by first|exact .v _|simp only[dW]),_,rfl⟩
 simp only[Z8,seval,hV,hW,bt g1,bt g2,g3,T5];exact⟨_,bX rfl (by simp only[E8,seval]<;>rfl) (by first|exact .v _|simp only[dW]),_,rfl⟩
theorem aRs (a b:fW) (h1:wX a.first) (h2:wX a.second) (h3:wX b.first) (h4:wX b.second):∃r,aD Tryz.prog 216 [.agg (cA a),.agg (cA b)]=some r∧∃b:Bool,r=.v (.bool b):=by
 obtain⟨r1,e1,B1,rfl⟩:=aMz a.first b.first h1 h3
 obtain⟨r2,e2,B2,rfl⟩:=aMz a.second b.second h2 h4
 have k1:=kx e1 (bI h1.fl h3.fl) (.v _)
 have k2:=kx e2 (bI h2.fl h4.fl) (.v _)
 rw[cL Tryz.func216 rfl aMB rfl];cases B1
 ·simp only[Z8,seval,k1];exact⟨_,bX rfl (by simp only[E8,seval]<;>rfl) (by first|exact .v _|simp only[dW]),_,rfl⟩
 ·simp only[Z8,seval,k1,k2];exact⟨_,bX rfl (by simp only[E8,seval]<;>rfl) (by first|exact .v _|simp only[dW]),_,rfl⟩
structure pH (x:xH):Prop where
 Gb:∃V:Option (List Int),x.Gb.eW=ov aJ V∧((ol V).length:Int)≤1000
 c1:wX x.oU.first
 c2:wX x.oU.second
 US:∃b:Option (List Int),x.table.jP=ov bF b∧((ol b).length:Int)≤1000∧∀y∈ol b,Rg y
 rb:RB x.block
 ra:Rg x.Gb.slot∧Rg x.Gb.target.aK
 rs:Rg x.oU.first.source∧Rg x.oU.first.target∧Rg x.oU.second.source∧Rg x.oU.second.target
 rt:Rg x.table.ck.aK
 rv:Rg x.verdict.tagged.tag
theorem pH.aFV {x:xH} (h:pH x):Cs x.Gb:=by obtain⟨V,h1,h2⟩:=h.Gb;exact⟨V,h1,by omega⟩
theorem pH.T6 {x:xH} (h:pH x):sN x.table:=by obtain⟨V,h1,h2,_⟩:=h.US;exact⟨V,h1,by omega⟩
theorem pH.fl {x:xH} (h:pH x):Flat x.Gb.eW∧Flat x.oU.first.eW∧Flat x.oU.second.eW∧Flat x.table.jP:=by
 obtain⟨V,h1,_⟩:=h.Gb;obtain⟨V2,h2,_⟩:=h.c1;obtain⟨V3,h3,_⟩:=h.c2;obtain⟨V4,h4,_⟩:=h.US
 rw[h1,h2,h3,h4];exact⟨bQ _,bQ _,bQ _,dU _⟩
theorem pH.flat {x:xH} (h:pH x):Flat (.agg (lC x)):=(TX x).2 h.fl
theorem UT (a b:xH) (ha:pH a) (hb:pH b):∃r,aD Tryz.prog 201 [.agg (lC a),.agg (lC b)]=some r∧∃b:Bool,r=.v (.bool b):=by
 have fa:=ha.fl
 have fb:=hb.fl
 obtain⟨r1,e1,B1,rfl⟩:=aRq a.Gb b.Gb ha.aFV hb.aFV
 obtain⟨r2,e2,B2,rfl⟩:=aRs a.oU b.oU ha.c1 ha.c2 hb.c1 hb.c2
 obtain⟨r3,e3,B3,rfl⟩:=aRr a.table b.table ha.T6 hb.T6
 have k1:=kx e1 (bI ((zK _).2 fa.1) ((zK _).2 fb.1)) (.v _)
 have k2:=kx e2 (bI ((nF _).2 ⟨fa.2.1,fa.2.2.1⟩) ((nF _).2 ⟨fb.2.1,fb.2.2.1⟩)) (.v _)
 have k3:=kx e3 (bI ((kM _).2 fa.2.2.2) ((kM _).2 fb.2.2.2)) (.v _)
 rw[cL Tryz.func201 rfl aMC rfl];by_cases g1:a.kind=b.kind
 case neg =>
  simp only[Z8,seval,qD,qF,bf g1];exact⟨_,bX rfl (by simp only[E8,seval]<;>rfl) (by first|exact .v _|simp only[dW]),_,rfl⟩
 by_cases g2:a.block=b.block
 case neg =>
  simp only[Z8,seval,qD,qF,bt g1,g2];exact⟨_,bX rfl (by simp only[E8,seval]<;>rfl) (by first|exact .v _|simp only[dW]),_,rfl⟩
 cases B1
 ·simp only[Z8,seval,qD,qF,bt g1,g2,k1];exact⟨_,bX rfl (by simp only[E8,seval]<;>rfl) (by first|exact .v _|simp only[dW]),_,rfl⟩
 cases B2
 ·simp only[Z8,seval,qD,qF,bt g1,g2,k1,k2];exact⟨_,bX rfl (by simp only[E8,seval]<;>rfl) (by first|exact .v _|simp only[dW]),_,rfl⟩
 cases B3
 ·simp only[Z8,seval,qD,qF,bt g1,g2,k1,k2,k3];exact⟨_,bX rfl (by simp only[E8,seval]<;>rfl) (by first|exact .v _|simp only[dW]),_,rfl⟩
 by_cases g3:a.verdict=b.verdict
 case neg =>
  simp only[Z8,seval,qD,qF,bt g1,g2,k1,k2,k3,g3];exact⟨_,bX rfl (by simp only[E8,seval]<;>rfl) (by first|exact .v _|simp only[dW]),_,rfl⟩
 by_cases g4:a.write=b.write
 case neg =>
  simp only[Z8,seval,qD,qF,bt g1,g2,k1,k2,k3,g3,bf g4];exact⟨_,bX rfl (by simp only[E8,seval]<;>rfl) (by first|exact .v _|simp only[dW]),_,rfl⟩
 simp only[Z8,seval,qD,qF,bt g1,g2,k1,k2,k3,g3,bt g4];exact⟨_,bX rfl (by simp only[E8,seval]<;>rfl) (by first|exact .v _|simp only[dW]),_,rfl⟩
theorem aC7 (cs:List AV) (o:Nat) (h:32≤cs.length-o):fG Tryz.prog 26 cs o=some (.agg (rd cs o 32)):=by
 have e:fO Tryz.prog 26=some (true,32):=by kernel_rfl
 unfold fG;simp only[e];rw[if_pos ⟨by omega,h⟩]
theorem T7:tR Tryz.prog 26=some 32:=by kernel_rfl
theorem aMD:dX Tryz.prog 26=some tU:=by kernel_rfl
theorem aME:jJ Tryz.prog 26=some (32,1):=by kernel_rfl
theorem aMF:dN Tryz.prog 26=none:=by kernel_rfl
theorem aMG (r:cK) (st:St) (s g o:Nat) (h:st.heap s g=some (.cells (aX r))):cS Tryz.prog st 26 (.ptr s g o) none none=some (.vw s g o 32):=by
 simp only[cS,aMF,aME,h]
theorem aHh (st:St) (x:AV) {k:IntKind} {i:Int} (h0:0≤i) (h1:i<32):bD Tryz.prog st 26 x (.v (.int k i))=vH x (i.toNat * 1):=GK aME st x h0 h1
theorem xN (x:Int):(IntKind.u64.wrap x<0)=False:=by
 refine eq_false ?_
 unfold IntKind.wrap;simp[IntKind.signed,IntKind.bits]
 omega
theorem aRt (w:rT):∃r:cK,aD Tryz.prog 246 [.agg (gE w)]=some (.agg (aX r)):=by
 suffices h:∃x,aD Tryz.prog 246 [.agg (gE w)]=some x∧∃r:cK,x=.agg (aX r) by
  obtain⟨x,h,r,rfl⟩:=h;exact⟨r,h⟩
 rw[cL Tryz.func246 rfl aMH rfl];simp only[Z8,seval,aMD];refine cB (fun m st=>∃(k:Nat) (r:cK),(st.env 1=.ptr 1 0 0∧st.heap 1 0=some (.cells (gE w))∧st.env 3=.ptr 3 0 0∧st.heap 3 0=some (.cells (aX r))∧st.env 2=.ptr 2 0 0∧st.heap 2 0=some (.cells (aX dO))∧st.env 4=.v (.int .i64 k))∧k≤32∧m=32-k)
  (fun e st=>e=.exit 0∧∃r:cK,st.env 3=.ptr 3 0 0∧st.heap 3 0=some (.cells (aX r))∧st.env 2=.ptr 2 0 0∧st.heap 2 0=some (.cells (aX dO))) 32 ?step ?start ?rest
 case step =>
  rintro m st ⟨k,r,hI,hk,hm⟩
  by_cases aZ:(k:Int)<32
  ·have q0:(0:Int)≤k:=by omega
   have hw:IntKind.i64.wrap ((k:Int)+1)=((k+1:Nat):Int):=by rw[pM _ (by omega) (by omega)];omega
   obtain⟨i,hi⟩:∃i:Int,i=31-(k:Int):=⟨_,rfl⟩
   have hi1:IntKind.i64.wrap (31-(k:Int))=i:=by rw[pM _ (by omega) (by omega),hi]
   have i0:0≤i:=by omega
   have i1:i<32:=by omega
   have hj:IntKind.i64.wrap ((k:Int).tdiv 8)=(k:Int) / 8:=by rw[Int.tdiv_eq_ediv_of_nonneg q0,pM _ (by omega) (by omega)]
   have j0:0≤(k:Int) / 8:=by omega
   have j1:(k:Int) / 8<4:=by omega
   have i31:i.toNat≤31:=by omega
   have gw:=Qj w j0 j1
   have Wk:=fun x=>Wf r i.toNat (i.toNat+1) x (by omega) rfl
   apply oN (32-(k+1))
   ·simp only[Z8,seval,hI,aZ,q0,hi1,i0,i1,hj,j0,j1,Hb,aHh,gw,i31,Wk,xN,Nat.mul_one,hw];rfl
   ·exact⟨k+1,_,by simp only[E8,seval,hI]<;>rfl,by omega,rfl⟩
  ·apply oT (.exit 0)
   ·simp only[Z8,seval,hI,aZ];rfl
   ·exact⟨rfl,r,by simp only[E8,seval,hI]⟩
 case start=>exact⟨0,dO,by simp only[E8,seval]<;>rfl,by omega,by omega⟩
 case rest =>
  rintro e st ⟨rfl,r,hI⟩
  simp only[Z8,seval,hI,aC7,T7];exact⟨_,fL rfl (by simp only[E8,seval,hI,aC7,T7]<;>rfl) (by simp only[Z8,seval,hI,aC7,T7]<;>rfl) (by simp only[dW,and_self,hI,aC7,T7]),r,rfl⟩
theorem aRu (w:rT):∃r:cK,∀(st:St) (d:Option Nat),aN (aD Tryz.prog) 246 [.agg (gE w)] st d=some { dst:=d,val:=.agg (aX r)}:=by
 obtain⟨r,h⟩:=aRt w
 exact⟨r,kx h (cP (.agg _ (iO w))) (qT r)⟩
theorem aMI (x:rT):Wr 227 [.agg (gE x)] 32:=by
 intro l hl;suffices h:∃r,aD Tryz.prog 227 [.uniq 5 1 l.length (kI l),.agg (gE x)]=some r∧∃m:List Int,r=.uniq 5 1 m.length (kI m)∧(m.length:Int)≤l.length+32 by
  obtain⟨r,h,m,rfl,h2⟩:=h;exact⟨m,h,h2⟩
 have Qe:(l.length:Int)<1000000:=by omega
 obtain⟨r,kr⟩:=aRu x
 have hr:(r.toList.length:Int)<1000000:=by simp
 rw[Iy Tryz.prog Tryz.func227 rfl aMJ _ _ _ _ _ (sP _ _)];simp only[Z8,seval,jC,mI,jD,kX,mJ,kr,aMD,T7,aMG r,T3 _ _ _ r,UR _ _ _ _ Qe hr];exact⟨_,zO (.inl rfl) rfl (by simp only[E8,seval]<;>rfl) (by simp only[E8,seval]<;>rfl) (zP _),_,rfl,by rw[List.length_append];simp⟩
theorem aRv (b:Bool):Wr 229 [.v (.bool b)] 1:=by
 intro l hl;suffices h:∃r,aD Tryz.prog 229 [.uniq 5 1 l.length (kI l),.v (.bool b)]=some r∧∃m:List Int,r=.uniq 5 1 m.length (kI m)∧(m.length:Int)≤l.length+1 by
  obtain⟨r,h,m,rfl,h2⟩:=h;exact⟨m,h,h2⟩
 have Qe:(l.length:Int)<1000000:=by omega
 rw[Iy Tryz.prog Tryz.func229 rfl aMK _ _ _ _ _ (sP _ _)];cases b
 all_goals
  simp only[Z8,seval,jC,mI,jD,kX,mJ,Lj _ _ _ _ Qe];exact⟨_,zO (.inl rfl) rfl (by simp only[E8,seval]<;>rfl) (by simp only[E8,seval]<;>rfl) (zP _),_,rfl,by rw[List.length_append,List.length_cons,List.length_nil];omega⟩
theorem kA (x:Int):Rg (IntKind.u64.wrap x):=by
 unfold Rg IntKind.wrap;simp[IntKind.signed,IntKind.bits]
 omega
theorem aHi (V:Option (List Int)) (nV:((ol V).length:Int)≤1000):Wr 230 [ov aJ V] 10010:=by
 intro l hl;suffices h:∃r,aD Tryz.prog 230 [.uniq 5 1 l.length (kI l),ov aJ V]=some r∧∃m:List Int,r=.uniq 5 1 m.length (kI m)∧(m.length:Int)≤l.length+10010 by
  obtain⟨r,h,m,rfl,h2⟩:=h;exact⟨m,h,h2⟩
 obtain⟨m1,e1,b1⟩:=(Xl _ (kA ((ol V).length:Int))).at (cP (.v _)) (l:=l) (by omega)
 rw[Iy Tryz.prog Tryz.func230 rfl aML _ _ _ _ _ (sP _ _)];simp only[Z8,seval,jC,mI,jD,kX,mJ,e1];refine cB (fun m st=>∃(k:Nat) (p:List Int) (a g:Nat),(st.env 0=.own a g∧st.heap a g=some (.row 5 1 p.length (kI p))∧st.env 1=ov aJ V∧st.env 5=.v (.int .i64 k))∧((a=10∧g<st.aO 10)∨(a=24∧g<st.aO 24)∨(a=38∧g<st.aO 38))∧(p.length:Int)≤l.length+10+10 * k∧k≤(ol V).length∧m=(ol V).length-k)
  (fun e st=>e=.exit 0∧∃(p:List Int) (a g:Nat),(st.env 0=.own a g∧st.heap a g=some (.row 5 1 p.length (kI p)))∧(p.length:Int)≤l.length+10010) (ol V).length ?step ?start ?rest
 case step =>
  rintro m st ⟨k,p,a,g,hI,GY,hp,hk,hm⟩
  by_cases aZ:(k:Int)<(ol V).length
  ·have q0:(0:Int)≤k:=by omega
   have hw:IntKind.i64.wrap ((k:Int)+1)=((k+1:Nat):Int):=by rw[pM _ (by omega) (by omega)];omega
   have fin:∀(p':List Int),(p'.length:Int)≤p.length+10→(p'.length:Int)≤l.length+10+10 * ((k+1:Nat):Int):=fun p' h=>by omega
   by_cases h1:(k:Int)=0
   ·have z0:(0:Int)<((ol V).length:Int):=by omega
    have z1:(0:Int)≤0:=by omega
    obtain⟨p',e2,b2⟩:=(Xl _ (kA (gx (0:Int) (ol V) (0:Int)))).at (cP (.v _)) (l:=p) (by omega)
    rcases GY with ⟨rfl,hg⟩|⟨rfl,hg⟩|⟨rfl,hg⟩
    ·apply oN ((ol V).length-(k+1))
     ·simp only[Z8,seval,hI,aZ,q0,bt h1,z0,z1,e2,hw];rfl
     ·exact⟨k+1,p',_,_,⟨by simp only[E8,seval]<;>rfl,by simp only[E8,seval]<;>rfl,by simp only[E8,seval,hI],by simp only[E8,seval]⟩,.inr (.inl ⟨rfl,by simp only[E8,seval]<;>omega⟩),fin p' b2,by omega,rfl⟩
    ·have vA:(g=st.aO 24)=False:=eq_false (by omega)
     apply oN ((ol V).length-(k+1))
     ·simp only[Z8,seval,hI,vA,aZ,q0,bt h1,z0,z1,e2,hw];rfl
     ·exact⟨k+1,p',_,_,⟨by simp only[E8,seval]<;>rfl,by simp only[E8,seval]<;>rfl,by simp only[E8,seval,hI],by simp only[E8,seval]⟩,.inr (.inl ⟨rfl,by simp only[E8,seval]<;>omega⟩),fin p' b2,by omega,rfl⟩
    ·apply oN ((ol V).length-(k+1))
     ·simp only[Z8,seval,hI,aZ,q0,bt h1,z0,z1,e2,hw];rfl
     ·exact⟨k+1,p',_,_,⟨by simp only[E8,seval]<;>rfl,by simp only[E8,seval]<;>rfl,by simp only[E8,seval,hI],by simp only[E8,seval]⟩,.inr (.inl ⟨rfl,by simp only[E8,seval]<;>omega⟩),fin p' b2,by omega,rfl⟩
   ·have P6:IntKind.i64.wrap ((k:Int)-1)=(k:Int)-1:=pM _ (by omega) (by omega)
    have y0:(0:Int)≤(k:Int)-1:=by omega
    have y1:(k:Int)-1<((ol V).length:Int):=by omega
    obtain⟨p',e2,b2⟩:=(Xl _ (kA (IntKind.i64.wrap (IntKind.i64.wrap (gx (0:Int) (ol V) (k:Int)-gx (0:Int) (ol V) ((k:Int)-1))-1)))).at (cP (.v _)) (l:=p) (by omega)
    rcases GY with ⟨rfl,hg⟩|⟨rfl,hg⟩|⟨rfl,hg⟩
    ·apply oN ((ol V).length-(k+1))
     ·simp only[Z8,seval,hI,aZ,q0,bf h1,P6,y0,y1,e2,hw];rfl
     ·exact⟨k+1,p',_,_,⟨by simp only[E8,seval]<;>rfl,by simp only[E8,seval]<;>rfl,by simp only[E8,seval,hI],by simp only[E8,seval]⟩,.inr (.inr ⟨rfl,by simp only[E8,seval]<;>omega⟩),fin p' b2,by omega,rfl⟩
    ·apply oN ((ol V).length-(k+1))
     ·simp only[Z8,seval,hI,aZ,q0,bf h1,P6,y0,y1,e2,hw];rfl
     ·exact⟨k+1,p',_,_,⟨by simp only[E8,seval]<;>rfl,by simp only[E8,seval]<;>rfl,by simp only[E8,seval,hI],by simp only[E8,seval]⟩,.inr (.inr ⟨rfl,by simp only[E8,seval]<;>omega⟩),fin p' b2,by omega,rfl⟩
    ·have vA:(g=st.aO 38)=False:=eq_false (by omega)
     apply oN ((ol V).length-(k+1))
     ·simp only[Z8,seval,hI,vA,aZ,q0,bf h1,P6,y0,y1,e2,hw];rfl
     ·exact⟨k+1,p',_,_,⟨by simp only[E8,seval]<;>rfl,by simp only[E8,seval]<;>rfl,by simp only[E8,seval,hI],by simp only[E8,seval]⟩,.inr (.inr ⟨rfl,by simp only[E8,seval]<;>omega⟩),fin p' b2,by omega,rfl⟩
  ·apply oT (.exit 0)
   ·simp only[Z8,seval,hI,aZ];rfl
   ·exact⟨rfl,p,a,g,by simp only[E8,seval,hI],by omega⟩
 case start=>exact⟨0,m1,10,0,by and_intros<;>(simp only[E8,seval,jC,mI,jD,kX,mJ]<;>rfl),.inl ⟨rfl,by simp only[E8,seval,jC,mI,jD,kX,mJ]<;>omega⟩,by omega,by omega,by omega⟩
 case rest =>
  rintro e st ⟨rfl,p,a,g,hI,hp⟩
  simp only[Z8,seval,hI];exact⟨_,zO (.inl rfl) rfl (by simp only[E8,seval]<;>rfl) (by simp only[E8,seval,hI]<;>rfl) (zP _),_,rfl,hp⟩
theorem aRw (c:Claim) (V:Option (List Int)) (hV:c.eW=ov aJ V) (nV:((ol V).length:Int)≤1000) (h1:Rg c.source) (h2:Rg c.target):Wr 231 [.agg (gO c)] 10100:=by
 intro l hl;suffices h:∃r,aD Tryz.prog 231 [.uniq 5 1 l.length (kI l),.agg (gO c)]=some r∧∃m:List Int,r=.uniq 5 1 m.length (kI m)∧(m.length:Int)≤l.length+10100 by
  obtain⟨r,h,m,rfl,h2⟩:=h;exact⟨m,h,h2⟩
 obtain⟨m1,e1,b1⟩:=(Xl c.source h1).at (cP (.v _)) (l:=l) (by omega)
 obtain⟨m2,e2,b2⟩:=(Xl c.target h2).at (cP (.v _)) (l:=m1) (by omega)
 obtain⟨m3,e3,b3⟩:=(GZ c.root).at (cP (qT _)) (l:=m2) (by omega)
 obtain⟨m4,e4,b4⟩:=(aHi V nV).at (cP (bQ V)) (l:=m3) (by omega)
 rw[ZN Tryz.prog Tryz.func231 rfl aFW (by kernel_rfl) _ _ _ _ _ (sP _ _)]
 simp only[ZG,seval,Bool.false_and,Prod.mk.injEq,aFX,jC,mI,jD,kX,mJ,e1,e2,e3,e4,hV,Bc,Bd,Hd,He];exact⟨_,zO (.inl rfl) rfl (by simp only[E8,seval]<;>rfl) (by simp only[E8,seval]<;>rfl) (zP _),_,rfl,by omega⟩
theorem aRx (c:Claim) (V:Option (List Int)) (hV:c.eW=ov aJ V) (nV:((ol V).length:Int)≤1000) (h1:Rg c.source) (h2:Rg c.target):WrN 231 [.agg (gO c)] 10100:=by
 suffices h:∃r,aD Tryz.prog 231 [.v (.slice none 0 0),.agg (gO c)]=some r∧∃m:List Int,r=.uniq 5 1 m.length (kI m)∧(m.length:Int)≤10100 by
  obtain⟨r,h,m,rfl,h2⟩:=h;exact⟨m,h,h2⟩
 obtain⟨m1,e1,b1⟩:=(E1 c.source h1).at (cP (.v _))
 obtain⟨m2,e2,b2⟩:=(Xl c.target h2).at (cP (.v _)) (l:=m1) (by omega)
 obtain⟨m3,e3,b3⟩:=(GZ c.root).at (cP (qT _)) (l:=m2) (by omega)
 obtain⟨m4,e4,b4⟩:=(aHi V nV).at (cP (bQ V)) (l:=m3) (by omega)
 rw[cG Tryz.func231 rfl aFW (by kernel_rfl) rfl]
 simp only[ZG,seval,Bool.false_and,Prod.mk.injEq,aFX,e1,e2,e3,e4,hV,Bc,Bd,Hd,He];exact⟨_,tD rfl (by simp only[E8,seval]<;>rfl) (by simp only[E8,seval]<;>rfl) (vS _),_,rfl,by omega⟩
theorem aRy (x:Block) (h:RB x):WrN 210 [.agg (aT x)] 400:=by
 suffices h:∃r,aD Tryz.prog 210 [.v (.slice none 0 0),.agg (aT x)]=some r∧∃m:List Int,r=.uniq 5 1 m.length (kI m)∧(m.length:Int)≤400 by
  obtain⟨r,h,m,rfl,h2⟩:=h;exact⟨m,h,h2⟩
 obtain⟨m1,e1,b1⟩:=(E1 x.slot h.sl).at (cP (.v _))
 obtain⟨m2,e2,b2⟩:=(GZ x.root).at (cP (qT _)) (l:=m1) (by omega)
 obtain⟨m3,e3,b3⟩:=(GZ x.parent).at (cP (qT _)) (l:=m2) (by omega)
 obtain⟨m4,e4,b4⟩:=(GZ x.jL).at (cP (qT _)) (l:=m3) (by omega)
 obtain⟨m5,e5,b5⟩:=(aMI x.diff).at (cP (.agg _ (iO _))) (l:=m4) (by omega)
 obtain⟨m6,e6,b6⟩:=(aMI x.EL).at (cP (.agg _ (iO _))) (l:=m5) (by omega)
 obtain⟨m7,e7,b7⟩:=(T4 x.gY h.j).at (cP (.agg _ (dD _))) (l:=m6) (by omega)
 obtain⟨m8,e8,b8⟩:=(T4 x.fin h.f).at (cP (.agg _ (dD _))) (l:=m7) (by omega)
 obtain⟨m9,e9,b9⟩:=(T4 x.dQ.pj h.pj).at (cP (.agg _ (dD _))) (l:=m8) (by omega)
 obtain⟨m10,e10,b10⟩:=(T4 x.dQ.pf h.pf).at (cP (.agg _ (dD _))) (l:=m9) (by omega)
 obtain⟨m11,e11,b11⟩:=(aRv x.Eu).at (cP (.v _)) (l:=m10) (by omega)
 rw[cG Tryz.func210 rfl aMM (by kernel_rfl) rfl]
 simp only[ZG,seval,Bool.false_and,Prod.mk.injEq,aMN,e1,e2,e3,e4,e5,e6,e7,e8,e9,e10,e11];exact⟨_,tD rfl (by simp only[E8,seval]<;>rfl) (by simp only[E8,seval]<;>rfl) (vS _),_,rfl,by omega⟩
def xO (r:AV):Prop:=∃(o:Option (List Int)) (e:Int),r=.dZ [ov kI o,.v (.int .i64 e)]
theorem xO.none (e:Int):xO (.dZ [.v (.slice none 0 0),.v (.int .i64 e)]):=⟨Option.none,e,rfl⟩
theorem xO.some (l:List Int) (e:Int):xO (.dZ [.sl l.length (kI l),.v (.int .i64 e)]):=⟨Option.some l,e,rfl⟩
theorem aRz (a:sJ) (V:Option (List Int)) (hV:a.eW=ov aJ V) (nV:((ol V).length:Int)≤1000) (h1:Rg a.slot) (h2:Rg a.target.aK):∃r,aD Tryz.prog 211 [.agg (hU a)]=some r∧xO r:=by
 have LA:=kx (c40 V (by omega) 1024) (bI (bQ V) (.v _)) (.v _)
 obtain⟨e,he⟩:∃e,BF (ol V) 1024=e:=⟨_,rfl⟩
 rw[he] at LA;obtain⟨m1,e1,b1⟩:=(E1 a.slot h1).at (cP (.v _))
 obtain⟨m2,e2,b2⟩:=(GZ a.root).at (cP (qT _)) (l:=m1) (by omega)
 obtain⟨m3,e3,b3⟩:=(T4 a.target h2).at (cP (.agg _ (dD _))) (l:=m2) (by omega)
 obtain⟨m4,e4,b4⟩:=(aHi V nV).at (cP (bQ V)) (l:=m3) (by omega)
 rw[cG Tryz.func211 rfl aMO (by kernel_rfl) rfl]
 by_cases g:e=0
 ·simp only[ZG,seval,Bool.false_and,Prod.mk.injEq,aFY,hV,LA,bt g,e1,e2,e3,e4,Bc,Bd,Hd,He];exact⟨_,dP rfl rfl rfl (by simp only[E8,seval,Cy]<;>rfl) (by simp only[E8,seval,Cy]<;>rfl),xO.some _ _⟩
 ·simp only[ZG,seval,Bool.false_and,Prod.mk.injEq,aFY,hV,LA,bf g];exact⟨_,dP rfl rfl rfl (by simp only[E8,seval]<;>rfl) (by simp only[E8,seval]<;>rfl),xO.none _⟩
theorem aRA (a:fW) (h1:wX a.first) (h2:wX a.second) (r1:Rg a.first.source) (r2:Rg a.first.target) (r3:Rg a.second.source) (r4:Rg a.second.target):∃r,aD Tryz.prog 212 [.agg (cA a)]=some r∧xO r:=by
 obtain⟨V,hV,nV⟩:=id h1
 obtain⟨W,hW,nW⟩:=id h2
 have kV:=kx (c40 V (by omega) 1024) (bI (bQ V) (.v _)) (.v _)
 have kW:=kx (c40 W (by omega) 1024) (bI (bQ W) (.v _)) (.v _)
 obtain⟨ev,BG⟩:∃e,BF (ol V) 1024=e:=⟨_,rfl⟩
 obtain⟨ew,hew⟩:∃e,BF (ol W) 1024=e:=⟨_,rfl⟩
 rw[BG] at kV;rw[hew] at kW;obtain⟨m1,e1,b1⟩:=(aRx a.first V hV nV r1 r2).at (cP h1.fl)
 obtain⟨m2,e2,b2⟩:=(aRw a.second W hW nW r3 r4).at (cP h2.fl) (l:=m1) (by omega)
 rw[cL Tryz.func212 rfl aMP rfl];by_cases g1:ev=0
 case neg =>
  simp only[Z8,seval,hV,hW,kV,bf g1];exact⟨_,dP rfl rfl rfl (by simp only[E8,seval]<;>rfl) (by simp only[E8,seval]<;>rfl),xO.none _⟩
 by_cases g2:ew=0
 case neg =>
  simp only[Z8,seval,hV,hW,kV,kW,bt g1,bf g2];exact⟨_,dP rfl rfl rfl (by simp only[E8,seval]<;>rfl) (by simp only[E8,seval]<;>rfl),xO.none _⟩
 simp only[Z8,seval,hV,hW,kV,kW,bt g1,bt g2,e1,e2];exact⟨_,dP rfl rfl rfl (by simp only[E8,seval,Cy]<;>rfl) (by simp only[E8,seval,Cy]<;>rfl),xO.some _ _⟩
theorem aRB (t:Table) (b:Option (List Int)) (hb:t.jP=ov bF b) (nb:((ol b).length:Int)≤1000) (rb:∀y∈ol b,Rg y) (rt:Rg t.ck.aK):∃r,aD Tryz.prog 213 [.agg (cI t)]=some r∧xO r:=by
 have hfT:Flat (.agg (cI t)):=(kM t).2 (by rw[hb];exact dU b)
 obtain⟨m1,e1,b1⟩:=(E1 t.ck.aK rt).at (cP (.v _))
 obtain⟨m2,e2,b2⟩:=(GZ t.ck.root).at (cP (qT _)) (l:=m1) (by omega)
 obtain⟨m3,e3,b3⟩:=(Xl _ (kA ((ol b).length:Int))).at (cP (.v _)) (l:=m2) (by omega)
 rw[cG Tryz.func213 rfl aMQ (by kernel_rfl) rfl]
 have g1:¬(1024:Int)<((ol b).length:Int):=by omega
 simp only[ZG,seval,Bool.false_and,Prod.mk.injEq,NF,hb,g1,e1,e2,e3,Bc,Bd,Hd,He];refine mH (fun m st=>∃(k:Nat) (p:List Int) (a g:Nat),(st.env 1=.ptr 1 0 0∧st.heap 1 0=some (.cells (cI t))∧st.env 4=.own a g∧st.heap a g=some (.row 5 1 p.length (kI p))∧st.env 5=.v (.int .i64 k))∧((a=22∧g=0)∨(a=36∧g<st.aO 36))∧(p.length:Int)≤100+10 * k∧k≤(ol b).length∧m=(ol b).length-k)
  (fun e st=>e=.exit 0∧∃(p:List Int) (a g:Nat),st.env 4=.own a g∧st.heap a g=some (.row 5 1 p.length (kI p))) (ol b).length ?step ?start ?rest
 case step =>
  rintro m st ⟨k,p,a,g,hI,GY,hp,hk,hm⟩
  by_cases aZ:(k:Int)<(ol b).length
  ·have q0:(0:Int)≤k:=by omega
   have hw:IntKind.i64.wrap ((k:Int)+1)=((k+1:Nat):Int):=by rw[pM _ (by omega) (by omega)];omega
   obtain⟨p',e4,b4⟩:=(Xl _ (rb _ (vP (z:=(0:Int)) q0 aZ))).at (cP (.v _)) (l:=p) (by omega)
   rcases GY with ⟨rfl,rfl⟩|⟨rfl,hg⟩
   ·apply En ((ol b).length-(k+1))
    ·simp only[ZG,seval,Bool.false_and,Prod.mk.injEq,NF,hI,aZ,q0,hb,e4,hw];rfl
    ·exact⟨k+1,p',36,_,⟨by simp only[E8,seval,hI],by simp only[E8,seval,hI],by simp only[E8,seval]<;>rfl,by simp only[E8,seval]<;>rfl,by simp only[E8,seval]⟩,.inr ⟨rfl,by simp only[E8,seval]<;>omega⟩,by omega,by omega,rfl⟩
   ·have vA:(g=st.aO 36)=False:=eq_false (by omega)
    apply En ((ol b).length-(k+1))
    ·simp only[ZG,seval,Bool.false_and,Prod.mk.injEq,NF,hI,vA,aZ,q0,hb,e4,hw];rfl
    ·exact⟨k+1,p',36,_,⟨by simp only[E8,seval,hI],by simp only[E8,seval,hI],by simp only[E8,seval]<;>rfl,by simp only[E8,seval]<;>rfl,by simp only[E8,seval]⟩,.inr ⟨rfl,by simp only[E8,seval]<;>omega⟩,by omega,by omega,rfl⟩
  ·apply LB (.exit 0)
   ·simp only[ZG,seval,Bool.false_and,Prod.mk.injEq,NF,hI,aZ,hb];rfl
   ·exact⟨rfl,p,a,g,by simp only[E8,seval,hI],by simp only[E8,seval,hI]⟩
 case start=>exact⟨0,m3,22,0,by and_intros<;>(simp only[E8,seval]<;>rfl),.inl ⟨rfl,rfl⟩,by omega,by omega,by omega⟩
 case rest =>
  rintro e st ⟨rfl,p,a,g,h4,hh⟩
  simp only[ZG,seval,Bool.false_and,Prod.mk.injEq,NF,h4,hh];exact⟨_,dP rfl rfl rfl (by simp only[E8,seval,h4,hh,Cy]<;>rfl) (by simp only[E8,seval,h4,hh,Cy]<;>rfl),xO.some _ _⟩
theorem aRC (v:gQ) (h:Rg v.tagged.tag):∃r,aD Tryz.prog 214 [.agg (dG v)]=some r∧xO r:=by
 obtain⟨m1,e1,b1⟩:=(E1 v.tagged.tag h).at (cP (.v _))
 obtain⟨m2,e2,b2⟩:=(Xl _ (kA v.kind)).at (cP (.v _)) (l:=m1) (by omega)
 obtain⟨m3,e3,b3⟩:=(GZ v.dT).at (cP (qT _)) (l:=m2) (by omega)
 rw[cG Tryz.func214 rfl aMR (by kernel_rfl) rfl]
 by_cases g1:v.kind<1
 ·simp only[ZG,seval,Bool.false_and,Prod.mk.injEq,T8,g1];exact⟨_,dP rfl rfl rfl (by simp only[E8,seval]<;>rfl) (by simp only[E8,seval]<;>rfl),xO.none _⟩
 by_cases g2:4<v.kind
 ·simp only[ZG,seval,Bool.false_and,Prod.mk.injEq,T8,g1,g2];exact⟨_,dP rfl rfl rfl (by simp only[E8,seval]<;>rfl) (by simp only[E8,seval]<;>rfl),xO.none _⟩
 simp only[ZG,seval,Bool.false_and,Prod.mk.injEq,T8,g1,g2,e1,e2,e3];exact⟨_,dP rfl rfl rfl (by simp only[E8,seval,Cy]<;>rfl) (by simp only[E8,seval,Cy]<;>rfl),xO.some _ _⟩
theorem aRD (x:xH) (h:pH x):∃r,aD Tryz.prog 200 [.agg (lC x)]=some r∧xO r:=by
 have kU:=h.fl
 obtain⟨V,hV,nV⟩:=h.Gb
 obtain⟨b,hb,nb,rb⟩:=h.US
 obtain⟨m1,e1,b1⟩:=(aRy x.block h.rb).at (cP (uY _))
 obtain⟨r2,e2,o2,f2,rfl⟩:=aRz x.Gb V hV nV h.ra.1 h.ra.2
 obtain⟨r3,e3,o3,f3,rfl⟩:=aRA x.oU h.c1 h.c2 h.rs.1 h.rs.2.1 h.rs.2.2.1 h.rs.2.2.2
 obtain⟨r4,e4,o4,f4,rfl⟩:=aRB x.table b hb nb rb h.rt
 obtain⟨r5,e5,o5,f5,rfl⟩:=aRC x.verdict h.rv
 have k2:=kx e2 (cP ((zK _).2 kU.1)) (.dZ _ (bI (yR _) (.v _)))
 have k3:=kx e3 (cP ((nF _).2 ⟨kU.2.1,kU.2.2.1⟩)) (.dZ _ (bI (yR _) (.v _)))
 have k4:=kx e4 (cP ((kM _).2 kU.2.2.2)) (.dZ _ (bI (yR _) (.v _)))
 have k5:=kx e5 (cP (.agg _ (jT _))) (.dZ _ (bI (yR _) (.v _)))
 obtain⟨m6,e6,b6⟩:=(E1 _ (kA x.write)).at (cP (.v _))
 obtain⟨m7,e7,b7⟩:=(Xl _ (kA x.qP)).at (cP (.v _)) (l:=m6) (by omega)
 rw[cL Tryz.func200 rfl aMS rfl];by_cases g2:x.kind=2
 ·simp only[Z8,seval,bt g2,e1];exact⟨_,dP rfl rfl rfl (by simp only[E8,seval,Cy]<;>rfl) (by simp only[E8,seval,Cy]<;>rfl),xO.some _ _⟩
 by_cases g3:x.kind=3
 ·simp only[Z8,seval,bf g2,bt g3,k2,eC];exact⟨_,dP rfl rfl rfl (by simp only[E8,seval,rV]<;>rfl) (by simp only[E8,seval,rV]<;>rfl),_,_,rfl⟩
 by_cases g4:x.kind=4
 ·simp only[Z8,seval,bf g2,bf g3,bt g4,k3,eC];exact⟨_,dP rfl rfl rfl (by simp only[E8,seval,rV]<;>rfl) (by simp only[E8,seval,rV]<;>rfl),_,_,rfl⟩
 by_cases g5:x.kind=5
 ·simp only[Z8,seval,bf g2,bf g3,bf g4,bt g5,k4,eC];exact⟨_,dP rfl rfl rfl (by simp only[E8,seval,rV]<;>rfl) (by simp only[E8,seval,rV]<;>rfl),_,_,rfl⟩
 by_cases g6:x.kind=6
 ·simp only[Z8,seval,bf g2,bf g3,bf g4,bf g5,bt g6,k5,eC];exact⟨_,dP rfl rfl rfl (by simp only[E8,seval,rV]<;>rfl) (by simp only[E8,seval,rV]<;>rfl),_,_,rfl⟩
 by_cases g8:x.kind=8
 case neg =>
  simp only[Z8,seval,bf g2,bf g3,bf g4,bf g5,bf g6,bf g8];exact⟨_,dP rfl rfl rfl (by simp only[E8,seval]<;>rfl) (by simp only[E8,seval]<;>rfl),xO.none _⟩
 by_cases w1:x.write<0
 ·simp only[Z8,seval,bf g2,bf g3,bf g4,bf g5,bf g6,bt g8,w1];exact⟨_,dP rfl rfl rfl (by simp only[E8,seval]<;>rfl) (by simp only[E8,seval]<;>rfl),xO.none _⟩
 by_cases w2:32768<x.write
 ·simp only[Z8,seval,bf g2,bf g3,bf g4,bf g5,bf g6,bt g8,w1,w2];exact⟨_,dP rfl rfl rfl (by simp only[E8,seval]<;>rfl) (by simp only[E8,seval]<;>rfl),xO.none _⟩
 by_cases w3:x.qP<0
 ·simp only[Z8,seval,bf g2,bf g3,bf g4,bf g5,bf g6,bt g8,w1,w2,w3];exact⟨_,dP rfl rfl rfl (by simp only[E8,seval]<;>rfl) (by simp only[E8,seval]<;>rfl),xO.none _⟩
 by_cases w4:32768<x.qP
 ·simp only[Z8,seval,bf g2,bf g3,bf g4,bf g5,bf g6,bt g8,w1,w2,w3,w4];exact⟨_,dP rfl rfl rfl (by simp only[E8,seval]<;>rfl) (by simp only[E8,seval]<;>rfl),xO.none _⟩
 simp only[Z8,seval,bf g2,bf g3,bf g4,bf g5,bf g6,bt g8,w1,w2,w3,w4,e6,e7];exact⟨_,dP rfl rfl rfl (by simp only[E8,seval,Cy]<;>rfl) (by simp only[E8,seval,Cy]<;>rfl),xO.some _ _⟩
theorem ZP:Rg 0:=⟨by omega,by omega⟩
theorem zOk:pH zQ:=⟨⟨none,rfl,by simp[ol]⟩,⟨none,rfl,by simp[ol]⟩,⟨none,rfl,by simp[ol]⟩,⟨none,rfl,by simp[ol],by simp[ol]⟩,⟨ZP,ZP,ZP,ZP,ZP⟩,⟨ZP,ZP⟩,⟨ZP,ZP,ZP,ZP⟩,ZP,ZP⟩
theorem aRE (x:xH) (h:pH x):∃r,aD Tryz.prog 184 [.agg (lC x)]=some r∧∃e:Int,r=.v (.int .i64 e):=by
 have z:=zOk
 have hf:=h.flat
 obtain⟨r1,e1,o1,e,rfl⟩:=aRD x h
 have NG:=kx e1 (cP hf) (.dZ _ (bI (yR _) (.v _)))
 rw[cG Tryz.func184 rfl aMT (by kernel_rfl) rfl]
 by_cases g1:x.kind<1
 ·simp only[ZG,seval,Bool.false_and,Prod.mk.injEq,Ka,g1];exact⟨_,bX rfl (by simp only[E8,seval]<;>rfl) (by first|exact .v _|simp only[dW]),_,rfl⟩
 by_cases g9:8<x.kind
 ·simp only[ZG,seval,Bool.false_and,Prod.mk.injEq,Ka,g1,g9];exact⟨_,bX rfl (by simp only[E8,seval]<;>rfl) (by first|exact .v _|simp only[dW]),_,rfl⟩
 by_cases g0:e=0
 case neg =>
  simp only[ZG,seval,Bool.false_and,Prod.mk.injEq,Ka,g1,g9,NG,eC,bf g0];exact⟨_,bX rfl (by simp only[E8,seval]<;>rfl) (by first|exact .v _|simp only[dW]),_,rfl⟩
 by_cases k2:x.kind=2
 ·have hy:pH { zQ with kind:=x.kind,block:=x.block }:=⟨z.Gb,z.c1,z.c2,z.US,h.rb,z.ra,z.rs,z.rt,z.rv⟩
  obtain⟨r2,e2,B,rfl⟩:=UT x { zQ with kind:=x.kind,block:=x.block } h hy
  have Qu:=kx e2 (bI hf hy.flat) (.v _)
  have SU:=h.fl
  cases B
  all_goals
   simp only[ZG,seval,Bool.false_and,Prod.mk.injEq,Ka,g1,g9,NG,eC,bt g0,bt k2,Qu,Bc,Bd,Hd,He];exact⟨_,bX rfl (by simp only[E8,seval]<;>rfl) (by first|exact .v _|simp only[dW]),_,rfl⟩
 by_cases k3:x.kind=3
 ·have hy:pH { zQ with kind:=x.kind,Gb:=x.Gb }:=⟨h.Gb,z.c1,z.c2,z.US,z.rb,h.ra,z.rs,z.rt,z.rv⟩
  obtain⟨r2,e2,B,rfl⟩:=UT x { zQ with kind:=x.kind,Gb:=x.Gb } h hy
  have Qu:=kx e2 (bI hf hy.flat) (.v _)
  have SU:=h.fl
  cases B
  all_goals
   simp only[ZG,seval,Bool.false_and,Prod.mk.injEq,Ka,g1,g9,NG,eC,bt g0,bf k2,bt k3,Qu,Bc,Bd,Hd,He];exact⟨_,bX rfl (by simp only[E8,seval]<;>rfl) (by first|exact .v _|simp only[dW]),_,rfl⟩
 by_cases k4:x.kind=4
 ·have hy:pH { zQ with kind:=x.kind,oU:=x.oU }:=⟨z.Gb,h.c1,h.c2,z.US,z.rb,z.ra,h.rs,z.rt,z.rv⟩
  obtain⟨r2,e2,B,rfl⟩:=UT x { zQ with kind:=x.kind,oU:=x.oU } h hy
  have Qu:=kx e2 (bI hf hy.flat) (.v _)
  have SU:=h.fl
  cases B
  all_goals
   simp only[ZG,seval,Bool.false_and,Prod.mk.injEq,Ka,g1,g9,NG,eC,bt g0,bf k2,bf k3,bt k4,Qu,Bc,Bd,Hd,He];exact⟨_,bX rfl (by simp only[E8,seval]<;>rfl) (by first|exact .v _|simp only[dW]),_,rfl⟩
 by_cases k5:x.kind=5
 ·have hy:pH { zQ with kind:=x.kind,table:=x.table }:=⟨z.Gb,z.c1,z.c2,h.US,z.rb,z.ra,z.rs,h.rt,z.rv⟩
  obtain⟨r2,e2,B,rfl⟩:=UT x { zQ with kind:=x.kind,table:=x.table } h hy
  have Qu:=kx e2 (bI hf hy.flat) (.v _)
  have SU:=h.fl
  cases B
  all_goals
   simp only[ZG,seval,Bool.false_and,Prod.mk.injEq,Ka,g1,g9,NG,eC,bt g0,bf k2,bf k3,bf k4,bt k5,Qu,Bc,Bd,Hd,He];exact⟨_,bX rfl (by simp only[E8,seval]<;>rfl) (by first|exact .v _|simp only[dW]),_,rfl⟩
 by_cases k6:x.kind=6
 ·have hy:pH { zQ with kind:=x.kind,verdict:=x.verdict }:=⟨z.Gb,z.c1,z.c2,z.US,z.rb,z.ra,z.rs,z.rt,h.rv⟩
  obtain⟨r2,e2,B,rfl⟩:=UT x { zQ with kind:=x.kind,verdict:=x.verdict } h hy
  have Qu:=kx e2 (bI hf hy.flat) (.v _)
  have SU:=h.fl
  cases B
  all_goals
   simp only[ZG,seval,Bool.false_and,Prod.mk.injEq,Ka,g1,g9,NG,eC,bt g0,bf k2,bf k3,bf k4,bf k5,bt k6,Qu,Bc,Bd,Hd,He];exact⟨_,bX rfl (by simp only[E8,seval]<;>rfl) (by first|exact .v _|simp only[dW]),_,rfl⟩
 by_cases k8:x.kind=8
 ·have hy:pH { zQ with kind:=x.kind,write:=x.write,qP:=x.qP }:=⟨z.Gb,z.c1,z.c2,z.US,z.rb,z.ra,z.rs,z.rt,z.rv⟩
  obtain⟨r2,e2,B,rfl⟩:=UT x { zQ with kind:=x.kind,write:=x.write,qP:=x.qP } h hy
  have Qu:=kx e2 (bI hf hy.flat) (.v _)
  have SU:=h.fl
  cases B
  all_goals
   simp only[ZG,seval,Bool.false_and,Prod.mk.injEq,Ka,g1,g9,NG,eC,bt g0,bf k2,bf k3,bf k4,bf k5,bf k6,bt k8,Qu,Bc,Bd,Hd,He];exact⟨_,bX rfl (by simp only[E8,seval]<;>rfl) (by first|exact .v _|simp only[dW]),_,rfl⟩
 have hy:pH { zQ with kind:=x.kind }:=⟨z.Gb,z.c1,z.c2,z.US,z.rb,z.ra,z.rs,z.rt,z.rv⟩
 obtain⟨r2,e2,B,rfl⟩:=UT x { zQ with kind:=x.kind } h hy
 have Qu:=kx e2 (bI hf hy.flat) (.v _)
 have SU:=h.fl
 cases B
 all_goals
  simp only[ZG,seval,Bool.false_and,Prod.mk.injEq,Ka,g1,g9,NG,eC,bt g0,bf k2,bf k3,bf k4,bf k5,bf k6,bf k8,Qu,Bc,Bd,Hd,He];exact⟨_,bX rfl (by simp only[E8,seval]<;>rfl) (by first|exact .v _|simp only[dW]),_,rfl⟩
theorem x45 (n bits:Int) (h0:0<n) (h1:n≤1000):∃r,aD Tryz.prog 45 [.v (.int .i64 n),.v (.int .i64 bits)]=some r∧∃l:List Int,r=.uniq 3 1 l.length (aJ l)∧(l.length:Int)≤n:=by
 rw[cL Tryz.func45 rfl aRF rfl];simp only[Z8,seval];refine cB (fun m st=>∃k:Nat,(st.env 0=.v (.int .i64 n)∧st.env 1=.v (.int .i64 bits)∧st.env 6=.v (.int .i64 k))∧(st.env 5=.v (.slice none 0 0)∨∃(l:List Int) (g:Nat),(st.env 5=.own 21 g∧st.heap 21 g=some (.row 3 1 l.length (aJ l)))∧g<st.aO 21∧0<l.length∧l.length≤k)∧(k:Int)≤n∧m=(n-k).toNat)
  (fun e st=>e=.exit 0∧st.env 0=.v (.int .i64 n)∧(st.env 5=.v (.slice none 0 0)∨∃(l:List Int) (g:Nat),(st.env 5=.own 21 g∧st.heap 21 g=some (.row 3 1 l.length (aJ l)))∧0<l.length∧(l.length:Int)≤n)) n.toNat ?step ?start ?rest
 case step =>
  rintro m st ⟨k,hI,h5,hk,hm⟩
  by_cases aZ:(k:Int)<n
  ·have q0:(0:Int)≤k:=by omega
   have hw:IntKind.i64.wrap ((k:Int)+1)=((k+1:Nat):Int):=by rw[pM _ (by omega) (by omega)];omega
   by_cases hh:IntKind.i64.wrap ((BitVec.ofInt IntKind.i64.bits (bits.fdiv (2 ^ min (IntKind.u64.wrap (k:Int)).toNat IntKind.i64.bits)) &&& BitVec.ofInt IntKind.i64.bits 1).toNat:Int)=1
   ·rcases h5 with h5|⟨l,g,h5,hg,hl0,hl⟩
    ·apply oN ((n-((k+1:Nat):Int)).toNat)
     ·simp only[Z8,seval,hI,h5,aZ,q0,xN,bt hh,hw];rfl
     ·exact⟨k+1,by simp only[E8,seval,hI],.inr ⟨[(k:Int)],_,⟨by simp only[E8,seval]<;>rfl,by simp only[E8,seval]<;>rfl⟩,by simp only[E8,seval]<;>omega,by simp,by simp⟩,by omega,rfl⟩
    ·have vA:(g=st.aO 21)=False:=eq_false (by omega)
     have nl:(l.length:Int)<1000000:=by omega
     apply oN ((n-((k+1:Nat):Int)).toNat)
     ·simp only[Z8,seval,hI,h5,vA,aZ,q0,xN,bt hh,hw,Er _ _ _ _ nl];rfl
     ·exact⟨k+1,by simp only[E8,seval,hI],.inr ⟨l++[(k:Int)],_,⟨by simp only[E8,seval]<;>rfl,by simp only[E8,seval]<;>rfl⟩,by simp only[E8,seval]<;>omega,by simp,by rw[List.length_append,List.length_cons,List.length_nil];omega⟩,by omega,rfl⟩
   ·have h5':st.env 5=.v (.slice none 0 0)∨∃(l:List Int) (g:Nat),(st.env 5=.own 21 g∧st.heap 21 g=some (.row 3 1 l.length (aJ l)))∧g<st.aO 21∧0<l.length∧l.length≤k+1:=h5.imp id fun ⟨l,g,a,b,c,d⟩=>⟨l,g,a,b,c,by omega⟩
    apply oN ((n-((k+1:Nat):Int)).toNat)
    ·simp only[Z8,seval,hI,aZ,q0,xN,bf hh,hw];rfl
    ·exact⟨k+1,by simp only[E8,seval,hI],by simpa only[E8,seval] using h5',by omega,rfl⟩
  ·have h5':st.env 5=.v (.slice none 0 0)∨∃(l:List Int) (g:Nat),(st.env 5=.own 21 g∧st.heap 21 g=some (.row 3 1 l.length (aJ l)))∧0<l.length∧(l.length:Int)≤n:=h5.imp id fun ⟨l,g,a,b,c,d⟩=>⟨l,g,a,c,by omega⟩
   apply oT (.exit 0)
   ·simp only[Z8,seval,hI,aZ];rfl
   ·exact⟨rfl,by simp only[E8,seval,hI],by simpa only[E8,seval] using h5'⟩
 case start=>exact⟨0,by simp only[E8,seval]<;>rfl,.inl (by simp only[E8,seval]),by omega,by simp⟩
 case rest =>
  rintro e st ⟨rfl,h0',h5|⟨l,g,h5,hl0,hl⟩⟩
  ·simp only[Z8,seval,h0',h5,h0];exact⟨_,Xm (n:=([0]:List Int).length) (cs:=aJ [0]) (aI (by decide)) (.inl rfl) rfl (by simp only[E8,seval]<;>rfl) (by simp only[E8,seval]<;>rfl) (gD _),_,rfl,by simp;omega⟩
  ·have hn0:¬((l.length:Int)=0):=by omega
   simp only[Z8,seval,h0',h5,bf hn0];exact⟨_,tD rfl (by simp only[E8,seval,h5]<;>rfl) (by simp only[E8,seval,h5]<;>rfl) (gD _),l,rfl,hl⟩
theorem k45 (n bits:Int) (h0:0<n) (h1:n≤1000):∃l:List Int,(∀(st:St) (d:Nat),aN (aD Tryz.prog) 45 [.v (.int .i64 n),.v (.int .i64 bits)] st (some d)=some { dst:=some d,val:=.own d (st.aO d),new:=some (d,[.row 3 1 l.length (aJ l)])})∧(l.length:Int)≤n:=by
 obtain⟨r,hr,l,rfl,hl⟩:=x45 n bits h0 h1
 exact⟨l,fun st d=>jE (bI (.v _) (.v _)) hr,hl⟩
theorem x92 {s:aM} {v:SV} {q:Int} (h:GI s v q) (r:RG s v) (i e:Int) (he:Rg e):∃x,aD Tryz.prog 92 [.agg (aB s),.v (.int .i64 i),.v (.int .u64 e)]=some x∧∃c:fV,x=.agg (bZ c)∧Rg c.aK:=by
 have T9:=LR v.ns h.up h.sd.nn i (IntKind.u64.wrap (e * s.cFg.rD))
 have hr:=EM h.up (i:=i) (s:=IntKind.u64.wrap (e * s.cFg.rD))
 obtain⟨k,hk⟩:∃k,GG v.ns i (IntKind.u64.wrap (e * s.cFg.rD))=k:=⟨_,rfl⟩
 rw[hk] at T9 hr
 rw[cL Tryz.func92 rfl aRI rfl];by_cases g1:k<0
 ·simp only[Z8,seval,h.sd.tree,T9,g1];exact⟨_,fL rfl (by simp only[E8,seval,Ba]<;>rfl) (by simp only[Z8,seval,Ba]<;>rfl) (by simp only[dW,and_self,Ba]),_,rfl,r.f⟩
 ·have k0:0≤k:=by omega
  have k1:k<v.ns.length:=by omega
  simp only[Z8,seval,h.sd.tree,T9,g1,k0,k1];exact⟨_,fL rfl (by simp only[E8,seval,Ba]<;>rfl) (by simp only[Z8,seval,Ba]<;>rfl) (by simp only[dW,and_self,Ba]),_,rfl,he⟩
theorem aRJ (n:Int):∃x,aD Tryz.prog 111 [.v (.int .i64 n)]=some x∧∃w:rT,x=.agg (gE w):=by
 obtain⟨j,hj⟩:∃j,(IntKind.i64.wrap ((BitVec.ofInt IntKind.i64.bits (((n).fdiv (2 ^ min 9 IntKind.i64.bits))) &&& BitVec.ofInt IntKind.i64.bits 3).toNat:Int))=j:=⟨_,rfl⟩
 have hb:=Qf ((n).fdiv (2 ^ min 9 IntKind.i64.bits)) 3 (by decide)
 rw[hj] at hb;have j0:=hb.1
 have j1:j<4:=by omega
 have j3:j.toNat<4:=by omega
 have j4:j.toNat≤3:=by omega
 have Wk:∀(w:rT) (x:Int),dM (gE w) j.toNat [.v (.int .u64 x)] (j.toNat+1)=gE (w.set j.toNat x):=fun w x=>rG w j.toNat _ x j3 rfl
 have fw:∀w:rT,Flat (.agg (gE w))=True:=fun w=>eq_true (.agg _ (iO w))
 rw[cL Tryz.func111 rfl aMV rfl];by_cases c1:(IntKind.i64.wrap ((BitVec.ofInt IntKind.i64.bits (((n).fdiv (2 ^ min 7 IntKind.i64.bits))) &&& BitVec.ofInt IntKind.i64.bits 3).toNat:Int))=1
 ·simp only[Z8,seval,bt c1,rG,Nat.reduceLT,Hb,hj,j0,j1,j4,Wk,Nat.mul_one,xN];exact⟨_,fL rfl (by simp only[E8,seval,fw]<;>rfl) (by simp only[Z8,seval,fw]<;>rfl) (by simp only[dW,and_self,fw]),_,rfl⟩
 by_cases c2:(IntKind.i64.wrap ((BitVec.ofInt IntKind.i64.bits (((n).fdiv (2 ^ min 7 IntKind.i64.bits))) &&& BitVec.ofInt IntKind.i64.bits 3).toNat:Int))=2
 ·simp only[Z8,seval,bf c1,bt c2,rG,Nat.reduceLT,Hb,hj,j0,j1,j4,Wk,Nat.mul_one,xN];exact⟨_,fL rfl (by simp only[E8,seval,fw]<;>rfl) (by simp only[Z8,seval,fw]<;>rfl) (by simp only[dW,and_self,fw]),_,rfl⟩
 by_cases c3:(IntKind.i64.wrap ((BitVec.ofInt IntKind.i64.bits (((n).fdiv (2 ^ min 7 IntKind.i64.bits))) &&& BitVec.ofInt IntKind.i64.bits 3).toNat:Int))=3
 ·simp only[Z8,seval,bf c1,bf c2,bt c3,rG,Nat.reduceLT,Hb,hj,j0,j1,j4,Wk,Nat.mul_one,xN];exact⟨_,fL rfl (by simp only[E8,seval,fw]<;>rfl) (by simp only[Z8,seval,fw]<;>rfl) (by simp only[dW,and_self,fw]),_,rfl⟩
 simp only[Z8,seval,bf c1,bf c2,bf c3,rG,Nat.reduceLT,Hb,hj,j0,j1,j4,Wk,Nat.mul_one,xN];exact⟨_,fL rfl (by simp only[E8,seval,fw]<;>rfl) (by simp only[Z8,seval,fw]<;>rfl) (by simp only[dW,and_self,fw]),_,rfl⟩
theorem aRK (n k:Int) (h0:0<n) (h1:n≤1000):∃r,aD Tryz.prog 182 [.v (.int .i64 n),.v (.int .i64 k)]=some r∧∃x:fW,r=.agg (cA x)∧wX x.first∧wX x.second∧Rg x.first.source∧Rg x.first.target∧Rg x.second.source∧Rg x.second.target:=by
 obtain⟨l,kl,hl⟩:=k45 n k h0 h1
 obtain⟨m,km,hm⟩:=k45 n ((k).fdiv (2 ^ min 6 IntKind.i64.bits)) h0 h1
 have cl:wX ⟨1,5,mkRoot 2,ov aJ (some l)⟩:=⟨some l,rfl,by show (l.length:Int)≤1000;omega⟩
 have rg:∀x:Int,0≤x∧x≤6→Rg x:=fun x h=>⟨by omega,by omega⟩
 have okl:∀a b r,wX ⟨a,b,r,ov aJ (some l)⟩:=fun a b r=>⟨some l,rfl,by show (l.length:Int)≤1000;omega⟩
 have okm:∀a b r,wX ⟨a,b,r,ov aJ (some m)⟩:=fun a b r=>⟨some m,rfl,by show (m.length:Int)≤1000;omega⟩
 rw[cL Tryz.func182 rfl aMX rfl];by_cases c0:((((k).fdiv (2 ^ min 12 IntKind.i64.bits))).tmod 8)=0
 ·simp only[Z8,seval,kl,km,Ty,bt c0];exact⟨_,by apply eB;rfl;all_goals simp only[aI,Z8,seval,bR,rW,vT,bG,cH,jZ,dW]<;>rfl,_,rfl,okm _ _ _,okl _ _ _,rg _ (by dsimp only;omega),rg _ (by dsimp only;omega),rg _ (by dsimp only;omega),rg _ (by dsimp only;omega)⟩
 by_cases c1:((((k).fdiv (2 ^ min 12 IntKind.i64.bits))).tmod 8)=1
 ·simp only[Z8,seval,kl,km,Ty,bf c0,bt c1];exact⟨_,by apply eB;rfl;all_goals simp only[aI,Z8,seval,bR,rW,vT,bG,cH,jZ,dW]<;>rfl,_,rfl,okl _ _ _,okm _ _ _,rg _ (by dsimp only;omega),rg _ (by dsimp only;omega),rg _ (by dsimp only;omega),rg _ (by dsimp only;omega)⟩
 by_cases c2:((((k).fdiv (2 ^ min 12 IntKind.i64.bits))).tmod 8)=2
 ·simp only[Z8,seval,kl,km,Ty,bf c0,bf c1,bt c2];exact⟨_,by apply eB;rfl;all_goals simp only[aI,Z8,seval,bR,rW,vT,bG,cH,jZ,dW]<;>rfl,_,rfl,okl _ _ _,okl _ _ _,rg _ (by dsimp only;omega),rg _ (by dsimp only;omega),rg _ (by dsimp only;omega),rg _ (by dsimp only;omega)⟩
 by_cases c3:((((k).fdiv (2 ^ min 12 IntKind.i64.bits))).tmod 8)=3
 ·simp only[Z8,seval,kl,km,Ty,bf c0,bf c1,bf c2,bt c3];exact⟨_,by apply eB;rfl;all_goals simp only[aI,Z8,seval,bR,rW,vT,bG,cH,jZ,dW]<;>rfl,_,rfl,okl _ _ _,okm _ _ _,rg _ (by dsimp only;omega),rg _ (by dsimp only;omega),rg _ (by dsimp only;omega),rg _ (by dsimp only;omega)⟩
 by_cases c4:((((k).fdiv (2 ^ min 12 IntKind.i64.bits))).tmod 8)=4
 ·simp only[Z8,seval,kl,km,Ty,bf c0,bf c1,bf c2,bf c3,bt c4];exact⟨_,by apply eB;rfl;all_goals simp only[aI,Z8,seval,bR,rW,vT,bG,cH,jZ,dW]<;>rfl,_,rfl,okl _ _ _,okm _ _ _,rg _ (by dsimp only;omega),rg _ (by dsimp only;omega),rg _ (by dsimp only;omega),rg _ (by dsimp only;omega)⟩
 simp only[Z8,seval,kl,km,Ty,bf c0,bf c1,bf c2,bf c3,bf c4];exact⟨_,by apply eB;rfl;all_goals simp only[aI,Z8,seval,bR,rW,vT,bG,cH,jZ,dW]<;>rfl,_,rfl,okl _ _ _,okm _ _ _,rg _ (by dsimp only;omega),rg _ (by dsimp only;omega),rg _ (by dsimp only;omega),rg _ (by dsimp only;omega)⟩
theorem aRL {s:aM} {v:SV} {q:Int} (h:GI s v q) (r:RG s v) (hB:0<(ol v.B).length∧(ol v.B).length≤64) (k:Int) (hk:0≤k):∃x,aD Tryz.prog 183 [.agg (aB s),.v (.int .i64 k)]=some x∧∃(t:Table) (b:List Int),x=.agg (cI t)∧t.jP=ov bF (some b)∧(b.length:Int)≤1000∧(∀y∈b,Rg y)∧Rg t.ck.aK:=by
 have hn:=h.sd.nn
 have hp:(0:Int)<(v.ns.length:Int):=by have:=h.pos;omega
 have gT:¬((v.ns.length:Int)=0):=by omega
 obtain⟨m1,m2⟩:=eG (n:=(v.ns.length:Int)) hk hp
 obtain⟨i,hi⟩:∃i,k.tmod (v.ns.length:Int)=i:=⟨_,rfl⟩
 rw[hi] at m1 m2;have Mp:=h.sp
 obtain⟨y,hy,c2,rfl,rc2⟩:=x92 h r i (Dw s s.now) (kA _)
 unfold Dw at hy;have Qv:=kx hy (oE h.sd.flat (.v _) (.v _)) (.agg _ (dD _))
 have rc1:Rg (nd v.ns i).block.dQ.pj.aK:=(r.nd _ (GU m1 m2)).1.pj
 rw[cL Tryz.func183 rfl aMY rfl];by_cases c0:((((k).fdiv (2 ^ min 5 IntKind.i64.bits))).tmod 4)=0
 case neg =>
  simp only[Z8,seval,h.sd.tree,gT,hi,m1,m2,bf c0];refine cB (fun m st=>∃(j:Nat) (X:AV) (L:List Int),(st.env 1=.v (.int .i64 k)∧st.env 2=.ptr 2 0 0∧st.heap 2 0=some (.cells (aB s))∧st.env 4=.ptr 4 0 0∧st.heap 4 0=some (.cells (cI iY))∧st.env 6=.ptr 6 0 0∧st.heap 6 0=some (.cells (cI ⟨(nd v.ns i).block.dQ.pj,X⟩))∧st.env 7=.v (.int .i64 j))∧((X=.v (.slice none 0 0)∧L=[])∨∃g,X=.own 55 g∧g<st.aO 55∧st.heap 55 g=some (.row 23 1 L.length (bF L)))∧(∀y∈L,Rg y)∧L.length=j∧j≤(ol v.B).length∧m=(ol v.B).length-j)
   (fun e st=>e=.exit 0∧∃(g:Nat) (L:List Int),(st.env 1=.v (.int .i64 k)∧st.env 2=.ptr 2 0 0∧st.heap 2 0=some (.cells (aB s))∧st.env 4=.ptr 4 0 0∧st.heap 4 0=some (.cells (cI iY))∧st.env 6=.ptr 6 0 0∧st.heap 6 0=some (.cells (cI ⟨(nd v.ns i).block.dQ.pj,.own 55 g⟩))∧st.heap 55 g=some (.row 23 1 L.length (bF L)))∧(∀y∈L,Rg y)∧L.length=(ol v.B).length) (ol v.B).length ?step ?start ?rest
  case step =>
   rintro m st ⟨j,X,L,hI,hX,hL,hj,hjB,hm⟩
   by_cases aZ:(j:Int)<(ol v.B).length
   ·have q0:(0:Int)≤j:=by omega
    have hw:IntKind.i64.wrap ((j:Int)+1)=((j+1:Nat):Int):=by rw[pM _ (by omega) (by omega)];omega
    have nL:(L.length:Int)<1000000:=by omega
    obtain⟨y,hy9⟩:∃y,IntKind.u64.wrap ((k.fdiv (2 ^ min (IntKind.u64.wrap (j:Int)).toNat IntKind.i64.bits)).tmod 50)=y:=⟨_,rfl⟩
    have ry:Rg y:=by rw[← hy9];exact kA _
    have Xe:∀z∈L++[y],Rg z:=fun z hz=>(List.mem_append.1 hz).elim (hL z) fun e=>by rw[List.mem_singleton] at e;rw[e];exact ry
    have Qd:(L++[y]).length=j+1:=by rw[List.length_append,List.length_cons,List.length_nil];omega
    rcases hX with ⟨rfl,rfl⟩|⟨g,rfl,hg,hh⟩
    ·apply oN ((ol v.B).length-(j+1))
     ·simp only[Z8,seval,hI,aZ,q0,h.sd.jP,xN,hy9,hw];rfl
     ·exact⟨j+1,_,[]++[y],⟨by simp only[E8,seval,hI],by simp only[E8,seval,hI],by simp only[E8,seval,hI],by simp only[E8,seval,hI],by simp only[E8,seval,hI],by simp only[E8,seval,hI],by simp only[E8,seval,hI]<;>rfl,by simp only[E8,seval]⟩,.inr ⟨_,rfl,by simp only[E8,seval]<;>omega,by simp only[E8,seval]<;>rfl⟩,Xe,Qd,by omega,rfl⟩
    ·have vA:(g=st.aO 55)=False:=eq_false (by omega)
     apply oN ((ol v.B).length-(j+1))
     ·simp only[Z8,seval,hI,hh,vA,aZ,q0,h.sd.jP,xN,hy9,hw,yC _ _ _ _ nL];rfl
     ·exact⟨j+1,_,L++[y],⟨by simp only[E8,seval,hI],by simp only[E8,seval,hI],by simp only[E8,seval,hI],by simp only[E8,seval,hI],by simp only[E8,seval,hI],by simp only[E8,seval,hI],by simp only[E8,seval,hI]<;>rfl,by simp only[E8,seval]⟩,.inr ⟨_,rfl,by simp only[E8,seval]<;>omega,by simp only[E8,seval]<;>rfl⟩,Xe,Qd,by omega,rfl⟩
   ·rcases hX with ⟨rfl,rfl⟩|⟨g,rfl,hg,hh⟩
    ·simp at hj;omega
    ·apply oT (.exit 0)
     ·simp only[Z8,seval,hI,aZ,h.sd.jP];rfl
     ·exact⟨rfl,g,L,by simp only[E8,seval,hI,hh],hL,by omega⟩
  case start=>exact⟨0,_,[],by and_intros<;>(simp only[E8,seval]<;>rfl),.inl ⟨rfl,rfl⟩,by simp,rfl,by omega,by omega⟩
  case rest =>
   rintro e st ⟨rfl,g,L,hI,hL,hlL⟩
   have nL:(L.length:Int)<1000000:=by omega
   by_cases d0:((((k).fdiv (2 ^ min 12 IntKind.i64.bits))).tmod 16)=0
   ·have Xe:∀z∈L++[(1:Int)],Rg z:=fun z hz=>(List.mem_append.1 hz).elim (hL z) fun e=>by rw[List.mem_singleton] at e;rw[e];exact⟨by omega,by omega⟩
    simp only[Z8,seval,hI,bt d0,yC _ _ _ _ nL];exact⟨_,by apply eB;rfl;all_goals simp only[aI,Z8,seval,hI,bR,tS,bG,vQ,dW]<;>rfl,⟨(nd v.ns i).block.dQ.pj,_⟩,L++[1],rfl,rfl,by rw[List.length_append,List.length_cons,List.length_nil];omega,Xe,rc1⟩
   by_cases d1:((((k).fdiv (2 ^ min 12 IntKind.i64.bits))).tmod 16)=1
   ·have z0:(0:Int)≤0:=by omega
    have z1:(0:Int)<(L.length:Int):=by omega
    have z2:0<L.length:=by omega
    have z3:1≤L.length:=z2
    have Xe:∀z∈L.set 0 4611686018427387904,Rg z:=fun z hz=>(List.mem_or_eq_of_mem_set hz).elim (hL z) fun e=>by rw[e];exact⟨by omega,by omega⟩
    have uW:dM (bF L) 0 [.v (.int .u64 4611686018427387904)] 1=bF (L.set 0 4611686018427387904):=by
     cases L with
     | nil=>simp at z2
     | cons a L=>simp[dM,bF,sQ]
    simp only[Z8,seval,hI,bf d0,bt d1,z0,z1,z3,uW,Int.toNat_zero,Nat.zero_mul];exact⟨_,by apply eB;rfl;all_goals simp only[aI,Z8,seval,hI,bR,tS,bG,vQ,dW]<;>rfl,⟨(nd v.ns i).block.dQ.pj,_⟩,L.set 0 4611686018427387904,rfl,by simp only[ov,List.length_set],by rw[List.length_set];omega,Xe,rc1⟩
   simp only[Z8,seval,hI,bf d0,bf d1];exact⟨_,by apply eB;rfl;all_goals simp only[aI,Z8,seval,hI,bR,tS,bG,vQ,dW]<;>rfl,⟨(nd v.ns i).block.dQ.pj,_⟩,L,rfl,rfl,by omega,hL,rc1⟩
 simp only[Z8,seval,h.sd.tree,gT,hi,m1,m2,bt c0,Mp,Qv];refine cB (fun m st=>∃(j:Nat) (X:AV) (L:List Int),(st.env 1=.v (.int .i64 k)∧st.env 2=.ptr 2 0 0∧st.heap 2 0=some (.cells (aB s))∧st.env 4=.ptr 4 0 0∧st.heap 4 0=some (.cells (cI iY))∧st.env 6=.ptr 6 0 0∧st.heap 6 0=some (.cells (cI ⟨c2,X⟩))∧st.env 7=.v (.int .i64 j))∧((X=.v (.slice none 0 0)∧L=[])∨∃g,X=.own 55 g∧g<st.aO 55∧st.heap 55 g=some (.row 23 1 L.length (bF L)))∧(∀y∈L,Rg y)∧L.length=j∧j≤(ol v.B).length∧m=(ol v.B).length-j)
  (fun e st=>e=.exit 0∧∃(g:Nat) (L:List Int),(st.env 1=.v (.int .i64 k)∧st.env 2=.ptr 2 0 0∧st.heap 2 0=some (.cells (aB s))∧st.env 4=.ptr 4 0 0∧st.heap 4 0=some (.cells (cI iY))∧st.env 6=.ptr 6 0 0∧st.heap 6 0=some (.cells (cI ⟨c2,.own 55 g⟩))∧st.heap 55 g=some (.row 23 1 L.length (bF L)))∧(∀y∈L,Rg y)∧L.length=(ol v.B).length) (ol v.B).length ?step ?start ?rest
 case step =>
  rintro m st ⟨j,X,L,hI,hX,hL,hj,hjB,hm⟩
  by_cases aZ:(j:Int)<(ol v.B).length
  ·have q0:(0:Int)≤j:=by omega
   have hw:IntKind.i64.wrap ((j:Int)+1)=((j+1:Nat):Int):=by rw[pM _ (by omega) (by omega)];omega
   have nL:(L.length:Int)<1000000:=by omega
   obtain⟨y,hy9⟩:∃y,IntKind.u64.wrap ((k.fdiv (2 ^ min (IntKind.u64.wrap (j:Int)).toNat IntKind.i64.bits)).tmod 50)=y:=⟨_,rfl⟩
   have ry:Rg y:=by rw[← hy9];exact kA _
   have Xe:∀z∈L++[y],Rg z:=fun z hz=>(List.mem_append.1 hz).elim (hL z) fun e=>by rw[List.mem_singleton] at e;rw[e];exact ry
   have Qd:(L++[y]).length=j+1:=by rw[List.length_append,List.length_cons,List.length_nil];omega
   rcases hX with ⟨rfl,rfl⟩|⟨g,rfl,hg,hh⟩
   ·apply oN ((ol v.B).length-(j+1))
    ·simp only[Z8,seval,hI,aZ,q0,h.sd.jP,xN,hy9,hw];rfl
    ·exact⟨j+1,_,[]++[y],⟨by simp only[E8,seval,hI],by simp only[E8,seval,hI],by simp only[E8,seval,hI],by simp only[E8,seval,hI],by simp only[E8,seval,hI],by simp only[E8,seval,hI],by simp only[E8,seval,hI]<;>rfl,by simp only[E8,seval]⟩,.inr ⟨_,rfl,by simp only[E8,seval]<;>omega,by simp only[E8,seval]<;>rfl⟩,Xe,Qd,by omega,rfl⟩
   ·have vA:(g=st.aO 55)=False:=eq_false (by omega)
    apply oN ((ol v.B).length-(j+1))
    ·simp only[Z8,seval,hI,hh,vA,aZ,q0,h.sd.jP,xN,hy9,hw,yC _ _ _ _ nL];rfl
    ·exact⟨j+1,_,L++[y],⟨by simp only[E8,seval,hI],by simp only[E8,seval,hI],by simp only[E8,seval,hI],by simp only[E8,seval,hI],by simp only[E8,seval,hI],by simp only[E8,seval,hI],by simp only[E8,seval,hI]<;>rfl,by simp only[E8,seval]⟩,.inr ⟨_,rfl,by simp only[E8,seval]<;>omega,by simp only[E8,seval]<;>rfl⟩,Xe,Qd,by omega,rfl⟩
  ·rcases hX with ⟨rfl,rfl⟩|⟨g,rfl,hg,hh⟩
   ·simp at hj;omega
   ·apply oT (.exit 0)
    ·simp only[Z8,seval,hI,aZ,h.sd.jP];rfl
    ·exact⟨rfl,g,L,by simp only[E8,seval,hI,hh],hL,by omega⟩
 case start=>exact⟨0,_,[],by and_intros<;>(simp only[E8,seval]<;>rfl),.inl ⟨rfl,rfl⟩,by simp,rfl,by omega,by omega⟩
 case rest =>
  rintro e st ⟨rfl,g,L,hI,hL,hlL⟩
  have nL:(L.length:Int)<1000000:=by omega
  by_cases d0:((((k).fdiv (2 ^ min 12 IntKind.i64.bits))).tmod 16)=0
  ·have Xe:∀z∈L++[(1:Int)],Rg z:=fun z hz=>(List.mem_append.1 hz).elim (hL z) fun e=>by rw[List.mem_singleton] at e;rw[e];exact⟨by omega,by omega⟩
   simp only[Z8,seval,hI,bt d0,yC _ _ _ _ nL];exact⟨_,by apply eB;rfl;all_goals simp only[aI,Z8,seval,hI,bR,tS,bG,vQ,dW]<;>rfl,⟨c2,_⟩,L++[1],rfl,rfl,by rw[List.length_append,List.length_cons,List.length_nil];omega,Xe,rc2⟩
  by_cases d1:((((k).fdiv (2 ^ min 12 IntKind.i64.bits))).tmod 16)=1
  ·have z0:(0:Int)≤0:=by omega
   have z1:(0:Int)<(L.length:Int):=by omega
   have z2:0<L.length:=by omega
   have z3:1≤L.length:=z2
   have Xe:∀z∈L.set 0 4611686018427387904,Rg z:=fun z hz=>(List.mem_or_eq_of_mem_set hz).elim (hL z) fun e=>by rw[e];exact⟨by omega,by omega⟩
   have uW:dM (bF L) 0 [.v (.int .u64 4611686018427387904)] 1=bF (L.set 0 4611686018427387904):=by
    cases L with
    | nil=>simp at z2
    | cons a L=>simp[dM,bF,sQ]
   simp only[Z8,seval,hI,bf d0,bt d1,z0,z1,z3,uW,Int.toNat_zero,Nat.zero_mul];exact⟨_,by apply eB;rfl;all_goals simp only[aI,Z8,seval,hI,bR,tS,bG,vQ,dW]<;>rfl,⟨c2,_⟩,L.set 0 4611686018427387904,rfl,by simp only[ov,List.length_set],by rw[List.length_set];omega,Xe,rc2⟩
  simp only[Z8,seval,hI,bf d0,bf d1];exact⟨_,by apply eB;rfl;all_goals simp only[aI,Z8,seval,hI,bR,tS,bG,vQ,dW]<;>rfl,⟨c2,_⟩,L,rfl,rfl,by omega,hL,rc2⟩
structure TD (t:State) (v:SV) (Q R:Option (List Request)):Prop where
 sd:SD t.store v
 Bx:t.eK=ov aA Q
 ret:t.jM=ov aA R
 nQ:((ol Q).length:Int)<900000
 nR:((ol R).length:Int)<900000
theorem TD.fl {t:State} {v:SV} {Q R:Option (List Request)} (h:TD t v Q R):Flat t.store.cFg.jP∧Flat t.store.gG.dT∧Flat t.store.gG.gX∧Flat t.store.dV.early∧Flat t.store.dV.bW∧Flat t.store.tree.nodes∧Flat t.store.tables∧Flat t.eK∧Flat t.jM:=by
 obtain⟨h1,h2,h3,h4,h5,h6,h7⟩:=h.sd.fl
 exact⟨h1,h2,h3,h4,h5,h6,h7,by rw[h.Bx];exact dI Q,by rw[h.ret];exact dI R⟩
theorem TD.flat {t:State} {v:SV} {Q R:Option (List Request)} (h:TD t v Q R):Flat (.agg (aE t)):=(oF t).2 h.fl
def qI (ns:List Node) (r:cK):Prop:=0≤aP ns r∧(nd ns (aP ns r)).status=0
theorem c85 {t:State} {v:SV} {Q R:Option (List Request)} (h:TD t v Q R) (r:cK):aD Tryz.prog 85 [.agg (aE t),.agg (aX r)]=some (.v (.bool (decide (qI v.ns r)))):=by
 have hr:=eY v.ns r
 rw[cL Tryz.func85 rfl aRP rfl];refine kN ?_
 by_cases g1:0≤aP v.ns r
 ·by_cases g2:(nd v.ns (aP v.ns r)).status=0
  ·simp only[Z8,seval,h.sd.tree,mS _ _ h.sd.nn,g1,hr.2,bt g2];exact⟨_,bX rfl (by simp only[E8,seval]<;>rfl) (by first|exact .v _|simp only[dW]),by simp[qI,g1,g2]⟩
  ·simp only[Z8,seval,h.sd.tree,mS _ _ h.sd.nn,g1,hr.2,bf g2];exact⟨_,bX rfl (by simp only[E8,seval]<;>rfl) (by first|exact .v _|simp only[dW]),by simp[qI,g1,g2]⟩
 ·simp only[Z8,seval,h.sd.tree,mS _ _ h.sd.nn,g1];exact⟨_,bX rfl (by simp only[E8,seval]<;>rfl) (by first|exact .v _|simp only[dW]),by simp[qI,g1]⟩
theorem k85 {t:State} {v:SV} {Q R:Option (List Request)} (h:TD t v Q R) (r:cK) (st:St) (d:Option Nat):aN (aD Tryz.prog) 85 [.agg (aE t),.agg (aX r)] st d=some { dst:=d,val:=.v (.bool (decide (qI v.ns r)))}:=kx (c85 h r) (bI h.flat (qT r)) (.v _) st d
def aHm (t:State) (L:List Request) (r:cK) (n:Int):State:={ t with eK:=ov aA (some (L++[⟨⟨t.bC⟩,r,n,0⟩])),bC:=IntKind.u64.wrap (t.bC+1)}
theorem c86 {t:State} {v:SV} {Q R:Option (List Request)} (h:TD t v Q R) (r:cK) (n:Int):aD Tryz.prog 86 [.agg (aE t),.agg (aX r),.v (.int .i64 n)]=some (.agg (aE (aHm t (ol Q) r n))):=by
 have kU:=h.fl
 have nq:((ol Q).length:Int)<1000000:=by have:=h.nQ;omega
 rw[cL Tryz.func86 rfl aRQ rfl];refine kN ?_
 simp only[Z8,seval,h.Bx,rH _ nq,oW _ _ _ _ nq];exact⟨_,by apply eB;rfl;all_goals simp only[aI,Z8,seval,kU,bR,vU,gH,bG,cH,pI,dW]<;>rfl,rfl⟩
noncomputable def pJ (ns:List Node) (l:List Request):List Request:=l.filter fun r=>decide (0≤aP ns r.block)
theorem c91 {t:State} {v:SV} {Q R:Option (List Request)} (h:TD t v Q R) (o:Option (List Request)) (hn:((ol o).length:Int)<1000000):aD Tryz.prog 91 [.agg (aE t),ov aA o]=some (Nm 63 35 aA (pJ v.ns (ol o))):=by
 rw[cL Tryz.func91 rfl aRR (by cases o<;>rfl)]
 refine kN ?_
 simp only[Z8,seval];refine cB (fun m st=>∃k:Nat,(st.env 2=.ptr 2 0 0∧st.heap 2 0=some (.cells (aE t))∧st.env 1=ov aA o∧st.env 6=.v (.int .i64 k))∧(((((ol o).take k).filter (fun r=>decide (0≤aP v.ns r.block)))=[]∧st.env 5=.v (.slice none 0 0))∨((((ol o).take k).filter (fun r=>decide (0≤aP v.ns r.block)))≠[]∧∃g,st.env 5=.own 29 g∧g<st.aO 29∧st.heap 29 g=some (.row 63 35 (((ol o).take k).filter (fun r=>decide (0≤aP v.ns r.block))).length (aA (((ol o).take k).filter (fun r=>decide (0≤aP v.ns r.block)))))))∧k≤(ol o).length∧m=(ol o).length-k)
  (fun e st=>e=.exit 0∧(((((ol o).take (ol o).length).filter (fun r=>decide (0≤aP v.ns r.block)))=[]∧st.env 5=.v (.slice none 0 0))∨((((ol o).take (ol o).length).filter (fun r=>decide (0≤aP v.ns r.block)))≠[]∧∃g,st.env 5=.own 29 g∧g<st.aO 29∧st.heap 29 g=some (.row 63 35 (((ol o).take (ol o).length).filter (fun r=>decide (0≤aP v.ns r.block))).length (aA (((ol o).take (ol o).length).filter (fun r=>decide (0≤aP v.ns r.block)))))))∧st.env 2=.ptr 2 0 0∧st.heap 2 0=some (.cells (aE t))∧st.env 1=ov aA o) ((ol o).length) ?step ?start ?rest
 case step =>
  rintro m st ⟨k,hI,h5,hk,hm⟩
  have Gj:(((((ol o).take k).filter (fun r=>decide (0≤aP v.ns r.block))).length:Nat):Int)<1000000:=by have:=List.length_filter_le (fun r=>decide (0≤aP v.ns r.block)) ((ol o).take k);have h2:=List.length_take_le' k (ol o);omega
  by_cases aZ:(k:Int)<(ol o).length
  ·have q0:(0:Int)≤k:=by omega
   have hw:IntKind.i64.wrap ((k:Int)+1)=((k+1:Nat):Int):=by rw[pM _ (by omega) (by omega)];omega
   have hs:=tQ bK (fun r=>decide (0≤aP v.ns r.block)) (ol o) k (by omega)
   by_cases hh:0≤aP v.ns (gx bK (ol o) (k:Int)).block
   ·rw[if_pos (decide_eq_true hh)] at hs;rcases h5 with ⟨hy,h5⟩|⟨hy,g,h5⟩
    ·rw[hy] at hs;apply oN ((ol o).length-(k+1))
     ·simp only[Z8,seval,hI,h5,aZ,hw,q0,h.sd.tree,mS _ _ h.sd.nn,hh];rfl
     ·exact⟨k+1,by simp only[E8,seval,hI],.inr ⟨by rw[hs];simp,_,by simp only[E8,seval]<;>rfl,(by simp only[E8,seval]<;>omega),(by rw[hs];simp only[E8,seval]<;>rfl)⟩,by omega,rfl⟩
    ·apply oN ((ol o).length-(k+1))
     ·simp only[Z8,seval,hI,h5,Gj,aZ,hw,q0,h.sd.tree,mS _ _ h.sd.nn,hh];rfl
     ·exact⟨k+1,by simp only[E8,seval,hI],.inr ⟨by rw[hs];simp,_,by simp only[E8,seval]<;>rfl,(by simp only[E8,seval]<;>omega),(by rw[hs];simp only[E8,seval]<;>rfl)⟩,by omega,rfl⟩
   ·rw[if_neg (by simpa using hh),List.append_nil] at hs
    apply oN ((ol o).length-(k+1))
    ·simp only[Z8,seval,hI,aZ,hw,q0,h.sd.tree,mS _ _ h.sd.nn,hh];rfl
    ·exact⟨k+1,by simp only[E8,seval,hI],by rw[hs];simpa only[E8,seval] using h5,by omega,rfl⟩
  ·have Dv:k=(ol o).length:=by omega
   rw[Dv] at h5;apply oT (.exit 0)
   ·simp only[Z8,seval,hI,aZ];rfl
   ·exact⟨rfl,by simpa only[E8,seval] using h5,by simp only[E8,seval,hI]⟩
 case start=>exact⟨0,by simp only[E8,seval]<;>rfl,.inl ⟨rfl,by simp only[E8,seval]⟩,by omega,by omega⟩
 case rest =>
  rintro e st ⟨rfl,⟨hy,h5⟩|⟨hy,g,h5,hg,Ak⟩,hI⟩
  ·rw[List.take_length] at hy;rw[show Nm 63 35 aA (pJ v.ns (ol o))=.v (.slice none 0 0) from if_pos hy];simp only[Z8,seval,h5];exact⟨_,bX rfl (by simp only[E8,seval,h5]<;>rfl) (by first|exact .v _|simp only[dW,h5]),rfl⟩
  ·rw[List.take_length] at hy Ak;rw[show Nm 63 35 aA (pJ v.ns (ol o))=.uniq 63 35 (pJ v.ns (ol o)).length (aA (pJ v.ns (ol o))) from if_neg hy];simp only[Z8,seval,h5];exact⟨_,tD rfl (by simp only[E8,seval,h5]<;>rfl) (by simp only[E8,seval,Ak]<;>rfl) (iX _),rfl⟩
noncomputable def UU (t:State) (v:SV) (Q R:Option (List Request)):State:={ t with eK:=ov aA (nz (pJ v.ns (ol Q))),jM:=ov aA (nz (pJ v.ns (ol R)))}
theorem c36 {t:State} {v:SV} {Q R:Option (List Request)} (h:TD t v Q R):aD Tryz.prog 36 [.agg (aE t)]=some (.agg (aE (UU t v Q R))):=by
 have kU:=h.fl
 have hf:=h.flat
 have cQ:=c91 h Q (by have:=h.nQ;omega)
 have cR:=c91 h R (by have:=h.nR;omega)
 rw[cL Tryz.func36 rfl aRS rfl];refine kN ?_
 by_cases e1:pJ v.ns (ol Q)=[]
 ·rw[show Nm 63 35 aA (pJ v.ns (ol Q))=.v (.slice none 0 0) from if_pos e1] at cQ;have z1:nz (pJ v.ns (ol Q))=none:=if_pos e1
  have kQ:=kx cQ (bI hf (dI Q)) (.v _)
  by_cases e2:pJ v.ns (ol R)=[]
  ·rw[show Nm 63 35 aA (pJ v.ns (ol R))=.v (.slice none 0 0) from if_pos e2] at cR;have z2:nz (pJ v.ns (ol R))=none:=if_pos e2
   have kR:=kx cR (bI hf (dI R)) (.v _)
   simp only[Z8,seval,h.Bx,h.ret,kQ,kR];exact⟨_,fL rfl (by simp only[E8,seval,kU]<;>rfl) (by simp only[Z8,seval,kU]<;>rfl) (by simp only[dW,and_self,kU]),by unfold UU;rw[z1,z2];rfl⟩
  ·rw[show Nm 63 35 aA (pJ v.ns (ol R))=.uniq 63 35 (pJ v.ns (ol R)).length (aA (pJ v.ns (ol R))) from if_neg e2] at cR;have z2:nz (pJ v.ns (ol R))=some (pJ v.ns (ol R)):=if_neg e2
   have kR:∀(st:St) (d:Nat),aN (aD Tryz.prog) 91 [.agg (aE t),ov aA R] st (some d)=_:=fun st d=>jE (st:=st) (d:=d) (bI hf (dI R)) cR
   simp only[Z8,seval,h.Bx,h.ret,kQ,kR];exact⟨_,by apply eB;rfl;all_goals simp only[aI,Z8,seval,kU,bR,vU,gH,bG,cH,pI,dW]<;>rfl,by unfold UU;rw[z1,z2];rfl⟩
 ·rw[show Nm 63 35 aA (pJ v.ns (ol Q))=.uniq 63 35 (pJ v.ns (ol Q)).length (aA (pJ v.ns (ol Q))) from if_neg e1] at cQ;have z1:nz (pJ v.ns (ol Q))=some (pJ v.ns (ol Q)):=if_neg e1
  have kQ:∀(st:St) (d:Nat),aN (aD Tryz.prog) 91 [.agg (aE t),ov aA Q] st (some d)=_:=fun st d=>jE (st:=st) (d:=d) (bI hf (dI Q)) cQ
  by_cases e2:pJ v.ns (ol R)=[]
  ·rw[show Nm 63 35 aA (pJ v.ns (ol R))=.v (.slice none 0 0) from if_pos e2] at cR;have z2:nz (pJ v.ns (ol R))=none:=if_pos e2
   have kR:=kx cR (bI hf (dI R)) (.v _)
   simp only[Z8,seval,h.Bx,h.ret,kQ,kR];exact⟨_,by apply eB;rfl;all_goals simp only[aI,Z8,seval,kU,bR,vU,gH,bG,cH,pI,dW]<;>rfl,by unfold UU;rw[z1,z2];rfl⟩
  ·rw[show Nm 63 35 aA (pJ v.ns (ol R))=.uniq 63 35 (pJ v.ns (ol R)).length (aA (pJ v.ns (ol R))) from if_neg e2] at cR;have z2:nz (pJ v.ns (ol R))=some (pJ v.ns (ol R)):=if_neg e2
   have kR:∀(st:St) (d:Nat),aN (aD Tryz.prog) 91 [.agg (aE t),ov aA R] st (some d)=_:=fun st d=>jE (st:=st) (d:=d) (bI hf (dI R)) cR
   simp only[Z8,seval,h.Bx,h.ret,kQ,kR];exact⟨_,by apply eB;rfl;all_goals simp only[aI,Z8,seval,kU,bR,vU,gH,bG,cH,pI,dW]<;>rfl,by unfold UU;rw[z1,z2];rfl⟩
theorem TD.drp {t:State} {v:SV} {Q R:Option (List Request)} (h:TD t v Q R):TD (UU t v Q R) v (nz (pJ v.ns (ol Q))) (nz (pJ v.ns (ol R))):=by
 have h1:=List.length_filter_le (fun r:Request=>decide (0≤aP v.ns r.block)) (ol Q)
 have h2:=List.length_filter_le (fun r:Request=>decide (0≤aP v.ns r.block)) (ol R)
 refine⟨h.sd,rfl,rfl, ?_, ?_⟩
 ·rw[nU];have:=h.nQ;unfold pJ;omega
 ·rw[nU];have:=h.nR;unfold pJ;omega
noncomputable def ZQ (ns:List Node) (p:Option (List Request) × Int) (r:cK):Option (List Request) × Int:=if qI ns r then (some (ol p.1++[⟨⟨p.2⟩,r,0,0⟩]),IntKind.u64.wrap (p.2+1)) else p
noncomputable def Mq (ns:List Node) (p:Option (List Request) × Int) (l:List cK):Option (List Request) × Int:=l.foldl (ZQ ns) p
theorem U0 (ns:List Node) (a:Option (List Request) × Int) (l:List cK) (k:Nat) (h:k<l.length):Mq ns a (l.take (k+1))=ZQ ns (Mq ns a (l.take k)) (gx dO l k):=by
 unfold Mq;rw[List.take_succ_eq_append_getElem h,List.foldl_append];simp[gx,h]
def UW (t:State) (p:Option (List Request) × Int):State:={ t with eK:=ov aA p.1,bC:=p.2 }
theorem TD.UW {t:State} {v:SV} {Q R:Option (List Request)} (h:TD t v Q R) (p:Option (List Request) × Int) (hn:((ol p.1).length:Int)<900000):TD (UW t p) v p.1 R:=⟨h.sd,rfl,h.ret,hn,h.nR⟩
theorem aHn {t:State} {v:SV} {Q R:Option (List Request)} (h:TD t v Q R):Tryz.UW t (Q,t.bC)=t:=by unfold Tryz.UW;simp only;rw[← h.Bx]
theorem aC8 (ns:List Node) (p:Option (List Request) × Int) (r:cK):(ol (ZQ ns p r).1).length≤(ol p.1).length+1:=by
 unfold ZQ;split
 ·show (ol p.1++[_]).length≤_;rw[List.length_append,List.length_cons,List.length_nil];omega
 ·omega
theorem ZR (ns:List Node) (p:Option (List Request) × Int) (l:List cK):(ol (Mq ns p l).1).length≤(ol p.1).length+l.length:=by
 induction l generalizing p with
 | nil=>exact Nat.le_refl _
 | cons r l ih=>have h1:=ih (ZQ ns p r);have h2:=aC8 ns p r;rw[List.length_cons];show (ol (Mq ns (ZQ ns p r) l).1).length≤_;omega
theorem c32 {t:State} {v:SV} {Q R:Option (List Request)} (h:TD t v Q R) (L:Option (List cK)) (hn:((ol Q).length:Int)+(ol L).length<800000):aD Tryz.prog 32 [.agg (aE t),ov gV L]=some (.agg (aE (Tryz.UW t (Mq v.ns (Q,t.bC) (ol L))))):=by
 have hT:∀k:Nat,k≤(ol L).length→TD (Tryz.UW t (Mq v.ns (Q,t.bC) ((ol L).take k))) v (Mq v.ns (Q,t.bC) ((ol L).take k)).1 R:=fun k hk=>h.UW _ (by
  have:=ZR v.ns (Q,t.bC) ((ol L).take k);rw[List.length_take] at this;have e:ol (Q,t.bC).1=ol Q:=rfl;rw[e] at this;omega)
 rw[cL Tryz.func32 rfl aRT (by cases L<;>rfl)]
 refine kN ?_
 simp only[Z8,seval];refine cB (fun m st=>∃k:Nat,(st.env 1=ov gV L∧st.env 2=.ptr 2 0 0∧st.heap 2 0=some (.cells (aE (Tryz.UW t (Mq v.ns (Q,t.bC) ((ol L).take k)))))∧st.env 4=.ptr 4 0 0∧st.heap 4 0=some (.cells (aE iZ))∧st.env 5=.v (.int .i64 k))∧k≤(ol L).length∧m=(ol L).length-k)
  (fun e st=>e=.exit 0∧(st.env 2=.ptr 2 0 0∧st.heap 2 0=some (.cells (aE (Tryz.UW t (Mq v.ns (Q,t.bC) (ol L)))))∧st.env 4=.ptr 4 0 0∧st.heap 4 0=some (.cells (aE iZ)))) (ol L).length ?step ?start ?rest
 case step =>
  rintro m st ⟨k,hI,hk,hm⟩
  by_cases aZ:(k:Int)<(ol L).length
  ·have q0:(0:Int)≤k:=by omega
   have hw:IntKind.i64.wrap ((k:Int)+1)=((k+1:Nat):Int):=by rw[pM _ (by omega) (by omega)];omega
   have hs:=U0 v.ns (Q,t.bC) (ol L) k (by omega)
   have hTk:=hT k hk
   have E2:=k85 hTk (gx dO (ol L) (k:Int))
   by_cases g1:qI v.ns (gx dO (ol L) (k:Int))
   ·have hT1:=hT (k+1) (by omega)
    have k86':=kx (c86 hTk (gx dO (ol L) (k:Int)) 0) (oE hTk.flat (qT _) (.v _)) (by
     have:aHm (Tryz.UW t (Mq v.ns (Q,t.bC) ((ol L).take k))) (ol (Mq v.ns (Q,t.bC) ((ol L).take k)).1) (gx dO (ol L) (k:Int)) 0=Tryz.UW t (Mq v.ns (Q,t.bC) ((ol L).take (k+1))):=by rw[hs,ZQ,if_pos g1];rfl
     rw[this];exact hT1.flat)
    have he:aHm (Tryz.UW t (Mq v.ns (Q,t.bC) ((ol L).take k))) (ol (Mq v.ns (Q,t.bC) ((ol L).take k)).1) (gx dO (ol L) (k:Int)) 0=Tryz.UW t (Mq v.ns (Q,t.bC) ((ol L).take (k+1))):=by rw[hs,ZQ,if_pos g1];rfl
    rw[he] at k86'
    apply oN ((ol L).length-(k+1))
    ·simp only[Z8,seval,hI,aZ,q0,E2,g1,k86',hw];rfl
    ·exact⟨k+1,by simp only[E8,seval,hI],by omega,rfl⟩
   ·rw[ZQ,if_neg g1] at hs;apply oN ((ol L).length-(k+1))
    ·simp only[Z8,seval,hI,aZ,q0,E2,g1,hw];rfl
    ·exact⟨k+1,by simp only[E8,seval,hI,hs],by omega,rfl⟩
  ·have Dv:k=(ol L).length:=by omega
   rw[Dv,List.take_length] at hI;apply oT (.exit 0)
   ·simp only[Z8,seval,hI,Int.lt_irrefl];rfl
   ·exact⟨rfl,by simp only[E8,seval,hI]⟩
 case start=>exact⟨0,by rw[List.take_zero,show Mq v.ns (Q,t.bC) []=(Q,t.bC) from rfl,aHn h];simp only[E8,seval]<;>rfl,by omega,by omega⟩
 case rest =>
  rintro e st ⟨rfl,hI⟩
  have hT1:=(hT (ol L).length (Nat.le_refl _)).fl
  rw[List.take_length] at hT1;simp only[Z8,seval,hI];exact⟨_,fL rfl (by simp only[E8,seval,hI,hT1]<;>rfl) (by simp only[Z8,seval,hI,hT1]<;>rfl) (by simp only[dW,and_self,hI,hT1]),rfl⟩
noncomputable def NH (b:Int):Nat→Int→Int
 | 0,d=>d
 | n+1,d=>if IntKind.u64.wrap (b-d)≤d then b else NH b n (IntKind.u64.wrap (2 * d))
noncomputable def UX (n b:Int):Int:=if b=0 then 0 else NH b (n-1).toNat 1
theorem aRV (n b:Int) (hn:n≤9223372036854775807):aD Tryz.prog 143 [.v (.int .i64 n),.v (.int .u64 b)]=some (.v (.int .u64 (UX n b))):=by
 rw[cL Tryz.func143 rfl aMZ rfl];refine kN ?_
 by_cases g0:b=0
 ·simp only[Z8,seval,bt g0];exact⟨_,bX rfl (by simp only[E8,seval]<;>rfl) (by first|exact .v _|simp only[dW]),by rw[UX,if_pos g0]⟩
 simp only[Z8,seval,bf g0];refine cB (fun m st=>∃(k:Nat) (d i:Int),(st.env 0=.v (.int .i64 n)∧st.env 1=.v (.int .u64 b)∧st.env 5=.v (.int .u64 d)∧st.env 6=.v (.int .i64 i))∧i=k+1∧NH b ((n-1).toNat-k) d=NH b (n-1).toNat 1∧k≤(n-1).toNat∧m=(n-1).toNat-k)
  (fun e st=>(e=.ret∧st.env 4=.v (.int .u64 (NH b (n-1).toNat 1)))∨(e=.exit 0∧st.env 5=.v (.int .u64 (NH b (n-1).toNat 1)))) (n-1).toNat ?step ?start ?rest
 case step =>
  rintro m st ⟨k,d,i,hI,hi,hd,hk,hm⟩
  by_cases aZ:i<n
  ·have hw:IntKind.i64.wrap (i+1)=i+1:=pM _ (by omega) (by omega)
   have e1:(n-1).toNat-k=((n-1).toNat-(k+1))+1:=by omega
   rw[e1,NH] at hd;by_cases g1:IntKind.u64.wrap (b-d)≤d
   ·rw[if_pos g1] at hd;apply oT (.ret)
    ·simp only[Z8,seval,hI,aZ,g1];rfl
    ·exact .inl ⟨rfl,by rw[← hd];simp only[E8,seval]⟩
   ·rw[if_neg g1] at hd;apply oN ((n-1).toNat-(k+1))
    ·simp only[Z8,seval,hI,aZ,g1,hw];rfl
    ·exact⟨k+1,_,i+1,by and_intros<;>(simp only[E8,seval,hI]<;>rfl),by omega,hd,by omega,rfl⟩
  ·have e1:(n-1).toNat-k=0:=by omega
   rw[e1,NH] at hd;apply oT (.exit 0)
   ·simp only[Z8,seval,hI,aZ];rfl
   ·exact .inr ⟨rfl,by rw[← hd];simp only[E8,seval,hI]⟩
 case start=>exact⟨0,1,1,by and_intros<;>(simp only[E8,seval]<;>rfl),rfl,rfl,by omega,by omega⟩
 case rest =>
  rintro e st (⟨rfl,h⟩|⟨rfl,h⟩)
  ·simp only[Z8,seval,h];exact⟨_,bX rfl (by simp only[E8,seval,h]<;>rfl) (by first|exact .v _|simp only[dW,h]),by rw[UX,if_neg g0]⟩
  ·simp only[Z8,seval,h];exact⟨_,bX rfl (by simp only[E8,seval,h]<;>rfl) (by first|exact .v _|simp only[dW,h]),by rw[UX,if_neg g0]⟩
theorem aRW (n b:Int) (hn:n≤9223372036854775807) (st:St) (d:Option Nat):aN (aD Tryz.prog) 143 [.v (.int .i64 n),.v (.int .u64 b)] st d=some { dst:=d,val:=.v (.int .u64 (UX n b))}:=kx (aRV n b hn) (bI (.v _) (.v _)) (.v _) st d
end Go.Ab.Tryz
