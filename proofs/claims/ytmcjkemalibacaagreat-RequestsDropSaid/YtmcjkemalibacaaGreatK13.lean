/-
  Part 13 of the proof: an evaluator of programs, its soundness, and what functions of this program compute.
-/
import Derived.Test.YtmcjkemalibacaaGreatK12
import Derived.Test.YtmcjkemalibacaaGreatK11
import Derived.Test.YtmcjkemalibacaaGreatK10
set_option linter.all false
set_option maxRecDepth 20000
set_option maxHeartbeats 40000000
namespace Go.Ab.Tryz
open Classical Go.Proofs Go.Ab
theorem aPF (ns:List Node) (hu:iD ns) (hr:(nd ns 0).up=-1) (hn:(ns.length:Int)<1000000) (w:List Int) (hw:w.length=ns.length) (b:List Bool) (hb:b.length=ns.length) (i:Int) :
 ∃r,aC Tryz.prog 225 [.agg (cX ⟨ns⟩),.sl w.length (bD w),.sl b.length (mX b),.v (.int .i64 i)]=some r∧∃k:Int,r=.v (.int .i64 k)∧(k=-1∨(i<k∧0≤k∧k<ns.length)):=by
 rw[cL Tryz.func225 rfl aKV rfl];by_cases hc:wG ns i=[]
 ·have kc:=fun st d=>aEn ns hu hr hn i hc st d
  simp only[Z8,seval,kc];refine cM (fun m st=>st.env 9=.v (.int .i64 (-1))∧st.env 10=.v (.slice none 0 0)∧st.env 11=.v (.int .i64 0)∧m=0) (fun e st=>e=.exit 0∧st.env 9=.v (.int .i64 (-1))) 0 ?step ?start ?rest
  case step =>
   rintro m st ⟨h9,h10,h11,_⟩
   apply oT (.exit 0)
   ·simp only[Z8,seval,h9,h10,h11,Int.lt_irrefl];rfl
   ·exact⟨rfl,by simp only[E8,seval,h9]⟩
  case start=>exact⟨by simp only[E8,seval]<;>rfl,by simp only[E8,seval]<;>rfl,by simp only[E8,seval]<;>rfl,rfl⟩
  case rest =>
   rintro e st ⟨rfl,h9⟩
   simp only[Z8,seval,h9];exact⟨_,bW rfl (by simp only[E8,seval,h9]<;>rfl) (by first|exact .v _|simp only[dW,h9]),-1,rfl,.inl rfl⟩
 have kc:=fun st d=>aJC ns hu hr hn i hc st d
 have hgt:∀x∈wG ns i,i<x∧0≤x∧x<ns.length:=fun x hx=>GF hu hr hx
 have hin:((wG ns i).length:Int)<1000000:=by
  have h1:(wG ns i).length≤ns.length:=by
   unfold wG;split
   ·simp
   ·exact Uw ns i ns.length
  omega
 obtain⟨l,el⟩:∃l,wG ns i=l:=⟨_,rfl⟩
 rw[el] at kc hgt hin;simp only[Z8,seval,kc];refine cM (fun m st=>∃(k:Nat) (xE:Int),(st.env 4=.ptr 4 0 0∧st.heap 4 0=some (.cells (cX ⟨ns⟩))∧st.env 1=.sl w.length (bD w)∧st.env 2=.sl b.length (mX b)∧st.env 10=.own 15 0∧st.heap 15 0=some (.row 3 1 l.length (aJ l))∧st.env 9=.v (.int .i64 xE)∧st.env 11=.v (.int .i64 k))∧(xE=-1∨(i<xE∧0≤xE∧xE<ns.length))∧k≤l.length∧m=l.length-k)
  (fun e st=>e=.exit 0∧∃xE:Int,st.env 9=.v (.int .i64 xE)∧(xE=-1∨(i<xE∧0≤xE∧xE<ns.length))) l.length ?step ?start ?rest
 case step =>
  rintro m st ⟨k,xE,hI,EB,hk,hm⟩
  by_cases bA:(k:Int)<l.length
  case neg =>
   apply oT (.exit 0)
   ·simp only[Z8,seval,hI,bA];rfl
   ·exact⟨rfl,xE,by simp only[E8,seval,hI],EB⟩
  have q0:(0:Int)≤k:=by omega
  have hwr:IntKind.i64.wrap ((k:Int)+1)=((k+1:Nat):Int):=by rw[pR _ (by omega) (by omega)];omega
  have gi:=pD q0 bA
  obtain⟨c,ec⟩:∃c,it l (k:Int)=c:=⟨_,rfl⟩
  have hc:=hgt c (by rw[← ec];obtain⟨h1,h2⟩:=xA q0 bA;rw[h2];exact List.getElem_mem h1)
  obtain⟨c0,c1,c2⟩:=hc
  have c3:c<(w.length:Int):=by rw[hw];exact c2
  have c4:c<(b.length:Int):=by rw[hb];exact c2
  cases g1:gx false b c
  ·apply oN (l.length-(k+1))
   ·simp only[Z8,seval,hI,bA,q0,gi,ec,c1,c3,c4,g1,hwr,pJ,pK];rfl
   ·exact⟨k+1,xE,by simp only[E8,seval,hI],EB,by omega,rfl⟩
  by_cases g2:xE<0
  ·apply oN (l.length-(k+1))
   ·simp only[Z8,seval,hI,bA,q0,gi,ec,c1,c3,c4,g1,g2,hwr,pJ,pK];rfl
   ·exact⟨k+1,c,by simp only[E8,seval,hI],.inr ⟨c0,c1,c2⟩,by omega,rfl⟩
  have b1:0≤xE:=by omega
  have b2:xE<ns.length:=by omega
  have b3:xE<(w.length:Int):=by rw[hw];exact b2
  by_cases g3:gx (0:Int) w xE<gx (0:Int) w c
  ·apply oN (l.length-(k+1))
   ·simp only[Z8,seval,hI,bA,q0,gi,ec,c1,c3,c4,g1,g2,b1,b3,g3,hwr,pJ,pK];rfl
   ·exact⟨k+1,c,by simp only[E8,seval,hI],.inr ⟨c0,c1,c2⟩,by omega,rfl⟩
  by_cases g4:gx (0:Int) w c=gx (0:Int) w xE
  case neg =>
   apply oN (l.length-(k+1))
   ·simp only[Z8,seval,hI,bA,q0,gi,ec,c1,c3,c4,g1,g2,b1,b3,g3,bf g4,hwr,pJ,pK];rfl
   ·exact⟨k+1,xE,by simp only[E8,seval,hI],EB,by omega,rfl⟩
  by_cases g5:0<aJ2 (nd ns c).block.root (nd ns xE).block.root
  ·apply oN (l.length-(k+1))
   ·simp only[Z8,seval,hI,bA,q0,gi,ec,c1,c2,c3,c4,g1,g2,b1,b2,b3,g3,bt g4,aFK,g5,hwr,pJ,pK];rfl
   ·exact⟨k+1,c,by simp only[E8,seval,hI],.inr ⟨c0,c1,c2⟩,by omega,rfl⟩
  ·apply oN (l.length-(k+1))
   ·simp only[Z8,seval,hI,bA,q0,gi,ec,c1,c2,c3,c4,g1,g2,b1,b2,b3,g3,bt g4,aFK,g5,hwr,pJ,pK];rfl
   ·exact⟨k+1,xE,by simp only[E8,seval,hI],EB,by omega,rfl⟩
 case start=>exact⟨0,-1,by simp only[E8,seval]<;>rfl,.inl rfl,by omega,by omega⟩
 case rest =>
  rintro e st ⟨rfl,xE,h9,EB⟩
  simp only[Z8,seval,h9];exact⟨_,bW rfl (by simp only[E8,seval,h9]<;>rfl) (by first|exact .v _|simp only[dW,h9]),xE,rfl,EB⟩
theorem aPG {s:aO} {v:SV} {q:Int} (h:GI s v q):∃r,aC Tryz.prog 208 [.agg (aB s)]=some r∧∃k:Int,r=.v (.int .i64 k)∧0≤k∧k<v.ns.length:=by
 have hf:=h.sd.flat
 have hn:=h.sd.nn
 obtain⟨r1,e1,w,rfl,hw⟩:=aPu h
 obtain⟨r2,e2,b,rfl,hb⟩:=aPy h
 have k223:∀(st:St) (d:Nat),aL (aC Tryz.prog) 223 [.agg (aB s)] st (some d)=_:=fun st d=>jF (st:=st) (d:=d) (cV hf) e1
 have k224:∀(st:St) (d:Nat),aL (aC Tryz.prog) 224 [.agg (aB s)] st (some d)=_:=fun st d=>jF (st:=st) (d:=d) (cV hf) e2
 have hB:∀i:Int,∃k:Int,aC Tryz.prog 225 [.agg (cX ⟨v.ns⟩),.sl w.length (bD w),.sl b.length (mX b),.v (.int .i64 i)]=some (.v (.int .i64 k))∧(k=-1∨(i<k∧0≤k∧k<v.ns.length)):=fun i=>by
  obtain⟨r,hr,k,rfl,hk⟩:=aPF v.ns h.up h.LD hn w hw b hb i
  exact⟨k,hr,hk⟩
 have kB:∀(i:Int) (k:Int),aC Tryz.prog 225 [.agg (cX ⟨v.ns⟩),.sl w.length (bD w),.sl b.length (mX b),.v (.int .i64 i)]=some (.v (.int .i64 k))→∀(st:St) (g1 g2:Nat) (d:Option Nat),st.heap 8 g1=some (.row 23 1 w.length (bD w))→st.heap 10 g2=some (.row 4 1 b.length (mX b)) →
  aL (aC Tryz.prog) 225 [.agg (cX ⟨v.ns⟩),.own 8 g1,.own 10 g2,.v (.int .i64 i)] st d=some { dst:=d,val:=.v (.int .i64 k)}:=by
  intro i k hk st g1 g2 d hh1 uR;rw[lF,List.map_cons,List.map_cons,List.map_cons,List.map_cons,List.map_nil,Iw,vJ,hh1,vI,vJ,uR,YN,Ld,bP,bP,bP,bP,gL];exact Ss hk
 rw[cL Tryz.func208 rfl aKY rfl];simp only[Z8,seval,k223,k224,h.sd.tree,mT _ _ hn];refine cM (fun m st=>∃i:Int,(st.env 1=.ptr 1 0 0∧st.heap 1 0=some (.cells (aB s))∧st.env 3=.own 8 0∧st.heap 8 0=some (.row 23 1 w.length (bD w))∧st.env 4=.own 10 0∧st.heap 10 0=some (.row 4 1 b.length (mX b))∧st.env 5=.v (.int .i64 i))∧0≤i∧i<v.ns.length∧m=v.ns.length-i.toNat)
  (fun e st=>e=.ret∧∃i:Int,st.env 2=.v (.int .i64 i)∧0≤i∧i<v.ns.length) (v.ns.length-(aN v.ns s.bM.hU.root).toNat) ?step ?start ?rest
 case step =>
  rintro m st ⟨i,hI,i0,i1,hm⟩
  obtain⟨k,hk,hkk⟩:=hB i
  have kb:=kB i k hk
  by_cases bA:k<0
  ·apply oT (.ret)
   ·simp only[Z8,seval,hI,h.sd.tree,kb,bA];rfl
   ·exact⟨rfl,i,by simp only[E8,seval],i0,i1⟩
  ·apply oN (v.ns.length-k.toNat)
   ·simp only[Z8,seval,hI,h.sd.tree,kb,bA];rfl
   ·exact⟨k,by simp only[E8,seval,hI],by omega,by omega,rfl⟩
 case start=>exact⟨_,by simp only[E8,seval]<;>rfl,h.hU,(fY _ _).2,rfl⟩
 case rest =>
  rintro e st ⟨rfl,i,h2,i0,i1⟩
  simp only[Z8,seval];exact⟨_,bW rfl (by simp only[E8,seval,h2]<;>rfl) (by first|exact .v _|simp only[dW,h2]),i,rfl,i0,i1⟩
theorem TX (r:Command):Flat (.agg (eA r))=True:=eq_true (.agg _ (lD r))
theorem aPH {s:aO} {v:SV} {q:Int} (h:GI s v q):∃r,aC Tryz.prog 199 [.agg (aB s)]=some r∧∃c:Command,r=.agg (eA c):=by
 have hf:=h.sd.flat
 obtain⟨r1,e1,k,rfl,k0,k1⟩:=aPG h
 have k208:=kx e1 (cV hf) (.v _)
 obtain⟨r2,e2,r,rfl⟩:=aPl h.sd
 have k209:=kx e2 (cV hf) (qK r)
 rw[cL Tryz.func199 rfl aKZ rfl];simp only[Z8,seval,k208,k209,h.sd.tree,k0,k1];exact⟨_,fL rfl (by simp only[E8,seval,TX]<;>rfl) (by simp only[Z8,seval,TX]<;>rfl) (by simp only[dW,and_self,TX]),_,rfl⟩
theorem aK0 (t:State) (hf:Flat (.agg (aF t))) {v:SV} {q:Int} (h:GI t.store v q):∃r,aC Tryz.prog 181 [.agg (aF t)]=some r∧∃(b:Bool) (c:Command) (y:AV),r=.eN [.agg (aF { t with zH:=b,last:=c }),y]∧Flat y:=by
 have XT:=h.sd.flat
 have iX:=(mN t).1 hf
 obtain⟨r1,e1,c,rfl⟩:=aPH h
 have aF0:=kx e1 (cV XT) (.agg _ (lD c))
 have hfc:∀x∈eA c,Flat x:=lD c
 have ex:jH (some (.row 56 96 1 (eA c)))=some (.sl 1 (eA c)):=by
  unfold jH;simp only[if_pos hfc]
 rw[cG Tryz.func181 rfl aK1 (by kernel_rfl) rfl]
 have A3:Flat (.agg (aF { t with zH:=true,last:=c })):=(mN _).2 iX
 cases g1:t.zH
 ·simp only[ZG,seval,Bool.false_and,Prod.mk.injEq,P5,aF0,g1];exact⟨_,by apply dO;rfl;all_goals simp only[aI,bV,Z8,seval,A3,ex]<;>rfl,true,c,_,rfl,.sl _ _ hfc⟩
 ·by_cases g2:t.last=c
  ·simp only[ZG,seval,Bool.false_and,Prod.mk.injEq,P5,aF0,g1,g2];exact⟨_,by apply dO;rfl;all_goals simp only[aI,bV,Z8,seval,hf]<;>rfl,t.zH,t.last,_,rfl,.v _⟩
  ·simp only[ZG,seval,Bool.false_and,Prod.mk.injEq,P5,aF0,g1,g2];exact⟨_,by apply dO;rfl;all_goals simp only[aI,bV,Z8,seval,A3,ex]<;>rfl,true,c,_,rfl,.sl _ _ hfc⟩
theorem wrap_u64 (x:Int) (h1:0≤x) (h2:x<18446744073709551616):IntKind.u64.wrap x=x:=by
 unfold IntKind.wrap;simp[IntKind.signed,IntKind.bits]
 omega
theorem aK2 (o:Option (List Int)) (hn:((ol o).length:Int)≤1000) (hb:∀x∈ol o,0≤x∧x≤1000):∃a:Int,aC Tryz.prog 175 [ov bD o]=some (.eN [.v (.int .u64 a),.v (.int .i64 0)])∧0≤a∧a≤1000000:=by
 suffices h:∃r,aC Tryz.prog 175 [ov bD o]=some r∧∃a:Int,r=.eN [.v (.int .u64 a),.v (.int .i64 0)]∧0≤a∧a≤1000000 by
  obtain⟨r,h,a,rfl,h1⟩:=h;exact⟨a,h,h1⟩
 have add:∀(a:Int) (k:Nat),0≤a∧a≤1000 * k→k<(ol o).length→AX a (gx (0:Int) (ol o) (k:Int))=(a+gx (0:Int) (ol o) (k:Int),0)∧0≤a+gx (0:Int) (ol o) (k:Int)∧a+gx (0:Int) (ol o) (k:Int)≤1000 * ((k+1:Nat):Int):=by
  intro a k ha hk;have hx:=hb _ (tY (z:=(0:Int)) (show (0:Int)≤k by omega) (show (k:Int)<(ol o).length by omega))
  obtain⟨x,ex⟩:∃x,gx (0:Int) (ol o) (k:Int)=x:=⟨_,rfl⟩
  rw[ex] at hx ⊢;have w1:IntKind.u64.wrap (18446744073709551615-x)=18446744073709551615-x:=wrap_u64 _ (by omega) (by omega)
  have w2:IntKind.u64.wrap (a+x)=a+x:=wrap_u64 _ (by omega) (by omega)
  unfold AX;rw[w1,w2,if_neg (by omega)]
  exact⟨rfl,by omega,by omega⟩
 rw[cL Tryz.func175 rfl aEs (by cases o<;>rfl)]
 simp only[Z8,seval];refine cM (fun m st=>∃(k:Nat) (a:Int),(st.env 0=ov bD o∧st.env 4=.v (.int .u64 a)∧st.env 5=.v (.int .i64 k))∧(0≤a∧a≤1000 * k)∧k≤(ol o).length∧m=(ol o).length-k)
  (fun e st=>e=.exit 0∧∃a:Int,st.env 4=.v (.int .u64 a)∧0≤a∧a≤1000000) (ol o).length ?step ?start ?rest
 case step =>
  rintro m st ⟨k,a,hI,ha,hk,hm⟩
  by_cases bA:(k:Int)<(ol o).length
  ·have q0:(0:Int)≤k:=by omega
   have hw:IntKind.i64.wrap ((k:Int)+1)=((k+1:Nat):Int):=by rw[pR _ (by omega) (by omega)];omega
   obtain⟨h1,h2⟩:=add a k ha (by omega)
   apply oN ((ol o).length-(k+1))
   ·simp only[Z8,seval,hI,bA,q0,aFx,eB,h1,hw];rfl
   ·exact⟨k+1,_,by simp only[E8,seval,hI]<;>rfl,h2,by omega,rfl⟩
  ·apply oT (.exit 0)
   ·simp only[Z8,seval,hI,bA];rfl
   ·exact⟨rfl,a,by simp only[E8,seval,hI],by omega⟩
 case start=>exact⟨0,0,by simp only[E8,seval]<;>exact⟨rfl,rfl⟩,by omega,by omega,by omega⟩
 case rest =>
  rintro e st ⟨rfl,a,h,ha⟩
  simp only[Z8,seval,h];exact⟨_,dO rfl rfl rfl (by simp only[E8,seval,h]<;>rfl) (by simp only[E8,seval,h]<;>rfl),_,rfl,ha⟩
theorem aK3 (t:Table) (b:Option (List Int)) (ht:t.jN=ov bD b) (hn:((ol b).length:Int)≤1000) (hb:∀x∈ol b,0≤x∧x≤1000):aC Tryz.prog 130 [.agg (cI t),.v (.int .i64 (ol b).length)]=some (.v (.int .i64 0)):=by
 obtain⟨a,hr,a0,a1⟩:=aK2 b hn hb
 have y7:=kx hr (cV (dR b)) (.eN _ (bH (.v _) (.v _)))
 rw[cL Tryz.func130 rfl aEu rfl];refine jG ?_
 have h3:(4611686018427387904<a)=False:=eq_false (by omega)
 simp only[Z8,seval,ht,bt (rfl:((ol b).length:Int)=(ol b).length),y7,eB,h3];exact⟨_,bW rfl (by simp only[E8,seval]<;>rfl) (by first|exact .v _|simp only[dW]),rfl⟩
theorem aB3:mkRoot 1≠dL:=by decide
structure Nw (c:Config) (b:List Int):Prop where
 jN:c.jN=ov bD (some b)
 nb:1≤b.length∧b.length≤64
 bv:∀x∈b,0≤x∧x≤1000
 qS:1≤c.qS∧c.qS≤64
 bp:c.Hf≤100
 rR:1≤c.mH.rR∧c.mH.rR≤4096
 wJ:0≤c.mH.wJ∧c.mH.wJ≤64
 pX:0≤c.mH.pX∧c.mH.pX≤256
 qT:1≤c.mH.qT∧c.mH.qT≤64
 oI:0≤c.mH.oI∧c.mH.oI≤256
 back:1≤c.mH.rI∧c.mH.rI≤1048576
 gen:c.eC=mkRoot 1
 n6:6≤c.mH.rR
theorem aF1 (n:Nat):((List.range n).flatMap fun _=>jS sD)=cU (List.replicate n sD):=by
 induction n with
 | zero=>rfl
 | succ n ih=>rw[List.range_succ,List.flatMap_append,ih,List.replicate_succ',cU,cU,List.flatMap_append];simp
theorem MI (t:Table):aT [t]=cI t:=by simp[aT]
def GH (c:Config):Block:={ fC with root:=c.eC,hU:=⟨0,c.eC⟩,fin:=⟨0,c.eC⟩,dS:=⟨⟨0,c.eC⟩,⟨0,c.eC⟩⟩}
def TY (c:Config) (b:List Int):aO:=⟨c,⟨ov cU (some (List.replicate b.length sD)),.v (.slice none 0 0)⟩,⟨⟨0,c.eC⟩,⟨0,c.eC⟩⟩,Ba,⟨.sl 1 (cD [⟨GH c,-1,1⟩])⟩,0,dL,ov aT (some [⟨⟨0,c.eC⟩,ov bD (some b)⟩])⟩
def Tv (c:Config) (b:List Int):SV:={ B:=some b,L:=some (List.replicate b.length sD),Q:=none,E:=none,O:=none,ns:=[⟨GH c,-1,1⟩],T:=some [⟨⟨0,c.eC⟩,ov bD (some b)⟩]}
theorem GI.new {c:Config} {b:List Int} (h:Nw c b):GI (TY c b) (Tv c b) 0:=by
 have hb:=h.nb
 refine⟨⟨h.jN,rfl,rfl,rfl,rfl,rfl,rfl, ?_, ?_, ?_, ?_, ?_, ?_, ?_, ?_, ?_⟩, ?_, ?_, ?_, ?_,h.rR.2,h.qS, ?_, ?_, ?_,h.wJ.2, ?_,h.pX.2, ?_,h.qT.2, ?_,by omega, ?_⟩
 ·intro a ha;cases ha
 ·intro t ht;rw[show t=⟨⟨0,c.eC⟩,ov bD (some b)⟩ by simpa [Tv,ol] using ht]
  exact⟨some b,rfl,by show (b.length:Int)<_;omega⟩
 ·show (b.length:Int)<_;omega
 ·show ((List.replicate b.length sD).length:Int)<_;rw[List.length_replicate];omega
 ·show ((0:Nat):Int)<_;omega
 ·show ((0:Nat):Int)<_;omega
 ·show ((0:Nat):Int)<_;omega
 ·show ((1:Nat):Int)<_;omega
 ·show ((1:Nat):Int)<_;omega
 ·intro i h0 h1;have:i<((1:Nat):Int):=h1;omega
 ·rfl
 ·show 0<1;omega
 ·show ((1:Nat):Int)≤c.mH.rR;have:=h.rR.1;omega
 ·show (List.replicate b.length sD).length=b.length;rw[List.length_replicate]
 ·show (b.length:Int)≤1024;omega
 ·show ((0:Nat):Int)≤c.mH.wJ;have:=h.wJ.1;omega
 ·show ((0:Nat):Int)≤c.mH.pX;have:=h.pX.1;omega
 ·show ((1:Nat):Int)≤c.mH.qT;have:=h.qT.1;omega
 ·show ((0:Nat):Int)≤0;omega
 ·exact Nt (j:=0) (by omega) (by show (0:Int)<((1:Nat):Int);omega) rfl
theorem aPI {c:Config} {b:List Int} (h:Nw c b):aC Tryz.prog 102 [.agg (bU c)]=some (.eN [.agg (aB (TY c b)),.v (.int .i64 0)]):=by
 obtain⟨hbal,hnb,hbv,hspe,hbp,h1,h2,h3,h4,h5,h6,hg0,_⟩:=h
 have hg:c.eC≠dL:=by rw[hg0];exact aB3
 have f1:=hspe.1;have f2:¬64<c.qS:=by omega
 have f1':¬c.qS<1:=by omega
 have f3:¬100<c.Hf:=by omega
 have f4:¬(1024:Int)<(b.length:Int):=by omega
 have f6:¬c.mH.rI<1:=by omega
 have f7:¬1048576<c.mH.rI:=by omega
 have n1:((ol (some b)).length:Int)<1000000:=by show (b.length:Int)<_;omega
 have hb0:(0:Int)≤(b.length:Int):=by omega
 have SK:(b.length:Int) * 48≤140737488355328:=by omega
 have XR:(b.length:Int)≤(maxLen:Int):=by unfold maxLen;omega
 have zE:iA.aK=0:=rfl
 have kt:∀(st:St) (d:Option Nat),aL (aC Tryz.prog) 130 [.agg (cI ⟨⟨0,c.eC⟩,ov bD (some b)⟩),.v (.int .i64 b.length)] st d=some { dst:=d,val:=.v (.int .i64 0)}:=kx (aK3 ⟨⟨0,c.eC⟩,ov bD (some b)⟩ (some b) rfl (by show (b.length:Int)≤_;omega) hbv) (bH ((kK ⟨⟨0,c.eC⟩,ov bD (some b)⟩).2 (dR (some b))) (.v _)) (.v _)
 have aFQ:=kx (aKh ⟨⟨0,c.eC⟩,ov bD (some b)⟩ (some b) rfl n1) (cV ((kK ⟨⟨0,c.eC⟩,ov bD (some b)⟩).2 (dR (some b)))) ((kK ⟨⟨0,c.eC⟩,ov bD (some b)⟩).2 (dR (some b)))
 rw[cL Tryz.func102 rfl aK4 rfl];refine jG ?_
 simp only[Z8,seval,pJ,pK,hbal,f1',f2,f3,f4,f6,f7,aOl,h1.1,h1.2,h2.1,h2.2,h3.1,h3.2,h4.1,h4.2,h5.1,h5.2,hg,zE,kt,hb0,SK,XR,Int.toNat_natCast,aF1,aFQ,aOc,Eo b (show (b.length:Int)<1000000 by omega)]
 have exT:=Ns 1 [⟨⟨0,c.eC⟩,ov bD (some b)⟩] (by intro y hy;rw[List.mem_singleton] at hy;subst hy;exact dR (some b))
 rw[MI] at exT;have hcc:∀x,x=c.jN→({ mH:=c.mH,qS:=c.qS,Hf:=c.Hf,AZ:=c.AZ,eC:=c.eC,jN:=x }:Config)=c:=by rintro _ rfl;rfl
 have zs:gQ.gG.gZ=.v (.slice none 0 0)∧gQ.dV.early=.v (.slice none 0 0)∧gQ.dV.bX=.v (.slice none 0 0):=⟨rfl,rfl,rfl⟩
 exact⟨_,by apply dO;rfl;all_goals simp only[aI,bV,Z8,seval,bR,gK,bG,vI,Uz,exT,cO,dW,zs]<;>rfl,by unfold TY;simp only[ov,List.length_replicate,MI,hcc (.sl b.length (bD b)) hbal.symm]<;>rfl⟩
end Go.Ab.Tryz
section
namespace Go.Ab
open Classical
theorem Iz [Ext] (P:Program) {f:Nat} {fn:Func} {c:Code} (hf:P.funcs[f]? = some fn) (hb:fn.body=some c) (rY:bJ fn=true) (e sz m:Nat) (cs xs:List AV) (hx:Ext.ext f (.uniq e sz m cs :: xs)=none) :
 aC P f (.uniq e sz m cs :: xs)=cN (yX P c (St.sZ e sz m cs xs)) (A5 P fn):=by
 simp only[bJ,hb,Bool.and_eq_true,Bool.not_eq_true'] at rY;rw[MJ P hf hb rY.1 e sz m cs xs hx,rY.2];rfl
theorem YO [Ext] (P:Program) {f:Nat} {fn:Func} {c:Code} (hf:P.funcs[f]? = some fn) (hb:fn.body=some c) (rY:tN fn=true) (hc:oB c=true) (e sz m:Nat) (cs xs:List AV) (hx:Ext.ext f (.uniq e sz m cs :: xs)=none) :
 aC P f (.uniq e sz m cs :: xs)=cN (wM P true c (St.sZ e sz m cs xs)) (A5 P fn):=by
 rw[MJ P hf hb rY e sz m cs xs hx,hc]
theorem zI [Ext] {P:Program} {fn:Func} {st:St} {e:Ex} {t s g ee sz n:Nat} {cs:List AV} (he:e=.ret∨e=.normal) (hr:fn.results.toList=[.tmp t]) (h1:st.env t=.own s g) (h2:st.heap s g=some (.row ee sz n cs)) (hm:∀c∈cs,dY c) :
 A5 P fn (e,st)=some (.uniq ee sz n cs):=MK he hr (by unfold kE;simp only[h1]) h2 hm
end Go.Ab
namespace Go.Ab.Tryz
open Classical Go.Proofs Go.Ab
theorem zJ (l:List Int):∀c∈kF l,dY c:=by
 intro c hc;unfold kF at hc;obtain⟨x,_,hx⟩:=List.mem_flatMap.1 hc
 rw[cU8,List.mem_singleton] at hx;subst hx;exact .v _
def Wr (F:Nat) (rest:List AV) (K:Int):Prop:=∀l:List Int,(l.length:Int)+K<900000→∃m:List Int,aC Tryz.prog F (.uniq 5 1 l.length (kF l) :: rest)=some (.uniq 5 1 m.length (kF m))∧(m.length:Int)≤l.length+K
def WrN (F:Nat) (rest:List AV) (K:Int):Prop:=∃m:List Int,aC Tryz.prog F (.v (.slice none 0 0) :: rest)=some (.uniq 5 1 m.length (kF m))∧(m.length:Int)≤K
theorem Wr.at {F:Nat} {rest:List AV} {K:Int} (h:Wr F rest K) (hr:∀x∈rest,Flat x) {l:List Int} (hl:(l.length:Int)+K<900000) :
 ∃m:List Int,(∀s k d c,mvE (aC Tryz.prog) F rest s k d c (some (.row 5 1 l.length (kF l)))=some { dst:=some d,val:=.own d c,dK:=some (s,k,none),new:=some (d,[.row 5 1 m.length (kF m)])})∧(m.length:Int)≤l.length+K:=by
 obtain⟨m,h1,h2⟩:=h l hl
 exact⟨m,fun s k d c=>ML (vM l) hr h1,h2⟩
theorem WrN.at {F:Nat} {rest:List AV} {K:Int} (h:WrN F rest K) (hr:∀x∈rest,Flat x) :
 ∃m:List Int,(∀(st:St) (d:Nat),lN (aC Tryz.prog) F (.v (.slice none 0 0) :: rest) st (some d)=some { dst:=some d,val:=.own d (st.aP d),new:=some (d,[.row 5 1 m.length (kF m)])})∧(m.length:Int)≤K:=by
 obtain⟨m,h1,h2⟩:=h
 exact⟨m,fun st d=>TZ hr h1,h2⟩
def tb:Nat→Int
 | 0=>18446744073709551616
 | k+1=>tb k / 128+1
theorem tb9:tb 9=3:=by decide
theorem YP (x:Int):x.fdiv (2 ^ min 7 IntKind.u64.bits)=x / 128:=by
 show x.fdiv 128=x / 128
 exact Int.fdiv_eq_ediv_of_nonneg x (by decide)
theorem aB4 (l:List Int):kF l=l.map fun x=>.v (.int .u8 x):=by
 induction l with
 | nil=>rfl
 | cons a l ih=>simp only[kF,List.flatMap_cons,List.map_cons,cU8] at *;rw[ih];rfl
theorem MM (r:cK):aX r=kF r.toList:=by rw[aB4];rfl
theorem Vc {P:Program} {T:Nat} {k:IntKind} {a b:Int}:gD P .or T (.v (.int k a)) (.v (.int k b))=some (.v (.int k (k.wrap (BitVec.ofInt k.bits a ||| BitVec.ofInt k.bits b).toNat))):=by simp[gD]
theorem aK6:dM Tryz.prog 27=none:=by kernel_rfl
theorem aK7 (r:cK) (st:St) (s g o:Nat) (h:st.heap s g=some (.cells (aX r))):cW Tryz.prog st 27 (.ptr s g o) none none=some (.vw s g o 32):=by
 simp only[cW,aK6,aFJ,h]
theorem P6 (st:St) (s g:Nat) (r:cK) (h:st.heap s g=some (.cells (aX r))):aR st (.vw s g 0 32)=some (r.toList.length,kF r.toList):=by
 have hl:(aX r).length=32:=aM r
 simp only[aR,h,Nat.zero_add,List.drop_zero];rw[if_pos (by omega),List.take_of_length_le (by omega),MM]
 simp
theorem Xb (n:Int) (hn:Rg n):Wr 215 [.v (.int .u64 n)] 10:=by
 intro l hl;suffices h:∃r,aC Tryz.prog 215 [.uniq 5 1 l.length (kF l),.v (.int .u64 n)]=some r∧∃m:List Int,r=.uniq 5 1 m.length (kF m)∧(m.length:Int)≤l.length+10 by
  obtain⟨r,h,m,rfl,h2⟩:=h;exact⟨m,h,h2⟩
 rw[Iz Tryz.prog Tryz.func215 rfl aEF _ _ _ _ _ (sE _ _)];simp only[Z8,seval,jB,mI,jC,kU,mJ];refine cM (fun m st=>∃(x:Int) (k:Nat) (l':List Int) (a g:Nat),(st.env 0=.own a g∧st.heap a g=some (.row 5 1 l'.length (kF l'))∧st.env 1=.v (.int .u64 x))∧((a=0∧g=0)∨(a=13∧g<st.aP 13))∧l'.length=l.length+k∧0≤x∧x<tb k∧k≤9∧m=x.toNat)
  (fun e st=>e=.exit 0∧∃(x:Int) (l':List Int) (a g:Nat),(st.env 0=.own a g∧st.heap a g=some (.row 5 1 l'.length (kF l'))∧st.env 1=.v (.int .u64 x))∧a≠19∧(l'.length:Int)≤l.length+9) n.toNat ?step ?start ?rest
 case step =>
  rintro m st ⟨x,k,l',a,g,hI,GJ,Gl,x0,hx,hk,hm⟩
  by_cases bA:127<x
  ·have hk8:k≤8:=by
    rcases Nat.lt_or_ge k 9 with h|h
    ·omega
    ·have:k=9:=by omega
     subst this;rw[tb9] at hx;omega
   have Qe:(l'.length:Int)<1000000:=by omega
   have Ja:x / 128<tb (k+1):=by show x / 128<tb k / 128+1;omega
   have ll:∀b:Int,(l'++[b]).length=l.length+(k+1):=fun b=>by rw[List.length_append,List.length_cons,List.length_nil];omega
   rcases GJ with ⟨rfl,rfl⟩|⟨rfl,hg⟩
   ·apply oN ((x / 128).toNat)
    ·simp only[Z8,seval,hI,bA,Vc,Lh _ _ _ _ Qe,YP];rfl
    ·exact⟨x / 128,k+1,_,13,_,by and_intros<;>(simp only[E8,seval]<;>rfl),.inr ⟨rfl,by simp only[E8,seval]<;>omega⟩,ll _,by omega,Ja,by omega,rfl⟩
   ·have vL:(g=st.aP 13)=False:=eq_false (by omega)
    apply oN ((x / 128).toNat)
    ·simp only[Z8,seval,hI,bA,vL,Vc,Lh _ _ _ _ Qe,YP];rfl
    ·exact⟨x / 128,k+1,_,13,_,by and_intros<;>(simp only[E8,seval]<;>rfl),.inr ⟨rfl,by simp only[E8,seval]<;>omega⟩,ll _,by omega,Ja,by omega,rfl⟩
  ·apply oT (.exit 0)
   ·simp only[Z8,seval,hI,bA];rfl
   ·exact⟨rfl,x,l',a,g,by simp only[E8,seval,hI],by omega,by omega⟩
 case start=>exact⟨n,0,l,0,0,by simp only[E8,seval,jB,mI,jC,kU,mJ]<;>rfl,.inl ⟨rfl,rfl⟩,rfl,hn.1,hn.2,by omega,rfl⟩
 case rest =>
  rintro e st ⟨rfl,x,l',a,g,hI,ha,Gl⟩
  have ha':(a=19)=False:=eq_false ha
  have Qe:(l'.length:Int)<1000000:=by omega
  simp only[Z8,seval,hI,ha',Lh _ _ _ _ Qe];exact⟨_,zI (.inl rfl) rfl (by simp only[E8,seval]<;>rfl) (by simp only[E8,seval]<;>rfl) (zJ _),_,rfl,by rw[List.length_append,List.length_cons,List.length_nil];omega⟩
theorem A6 (n:Int) (hn:Rg n):WrN 215 [.v (.int .u64 n)] 10:=by
 suffices h:∃r,aC Tryz.prog 215 [.v (.slice none 0 0),.v (.int .u64 n)]=some r∧∃m:List Int,r=.uniq 5 1 m.length (kF m)∧(m.length:Int)≤10 by
  obtain⟨r,h,m,rfl,h2⟩:=h;exact⟨m,h,h2⟩
 rw[cL Tryz.func215 rfl aEF rfl];simp only[Z8,seval];refine cM (fun m st=>∃(x:Int) (k:Nat),st.env 1=.v (.int .u64 x)∧((k=0∧st.env 0=.v (.slice none 0 0))∨∃(l':List Int) (g:Nat),(st.env 0=.own 13 g∧st.heap 13 g=some (.row 5 1 l'.length (kF l')))∧g<st.aP 13∧l'.length=k)∧0≤x∧x<tb k∧k≤9∧m=x.toNat)
  (fun e st=>e=.exit 0∧∃(x:Int),st.env 1=.v (.int .u64 x)∧(st.env 0=.v (.slice none 0 0)∨∃(l':List Int) (g:Nat),(st.env 0=.own 13 g∧st.heap 13 g=some (.row 5 1 l'.length (kF l')))∧(l'.length:Int)≤9)) n.toNat ?step ?start ?rest
 case step =>
  rintro m st ⟨x,k,hI,h0,x0,hx,hk,hm⟩
  by_cases bA:127<x
  ·have hk8:k≤8:=by
    rcases Nat.lt_or_ge k 9 with h|h
    ·omega
    ·have:k=9:=by omega
     subst this;rw[tb9] at hx;omega
   have Ja:x / 128<tb (k+1):=by show x / 128<tb k / 128+1;omega
   rcases h0 with ⟨uQ,h0⟩|⟨l',g,h0,hg,Gl⟩
   ·have ll:∀b:Int,([b]:List Int).length=k+1:=fun b=>by rw[List.length_cons,List.length_nil];omega
    apply oN ((x / 128).toNat)
    ·simp only[Z8,seval,hI,h0,bA,Vc,UA,YP];rfl
    ·exact⟨x / 128,k+1,by simp only[E8,seval],.inr ⟨_,_,⟨by simp only[E8,seval]<;>rfl,by simp only[E8,seval]<;>rfl⟩,by simp only[E8,seval]<;>omega,ll _⟩,by omega,Ja,by omega,rfl⟩
   ·have Qe:(l'.length:Int)<1000000:=by omega
    have ll:∀b:Int,(l'++[b]).length=k+1:=fun b=>by rw[List.length_append,List.length_cons,List.length_nil];omega
    have vL:(g=st.aP 13)=False:=eq_false (by omega)
    apply oN ((x / 128).toNat)
    ·simp only[Z8,seval,hI,h0,bA,vL,Vc,Lh _ _ _ _ Qe,YP];rfl
    ·exact⟨x / 128,k+1,by simp only[E8,seval],.inr ⟨_,_,⟨by simp only[E8,seval]<;>rfl,by simp only[E8,seval]<;>rfl⟩,by simp only[E8,seval]<;>omega,ll _⟩,by omega,Ja,by omega,rfl⟩
  ·have h0':st.env 0=.v (.slice none 0 0)∨∃(l':List Int) (g:Nat),(st.env 0=.own 13 g∧st.heap 13 g=some (.row 5 1 l'.length (kF l')))∧(l'.length:Int)≤9:=by
    rcases h0 with ⟨_,h0⟩|⟨l',g,h0,hg,Gl⟩
    ·exact .inl h0
    ·exact .inr ⟨l',g,h0,by omega⟩
   apply oT (.exit 0)
   ·simp only[Z8,seval,hI,bA];rfl
   ·exact⟨rfl,x,by simp only[E8,seval,hI],by simpa only[E8,seval] using h0'⟩
 case start=>exact⟨n,0,by simp only[E8,seval]<;>rfl,.inl ⟨rfl,by simp only[E8,seval]<;>rfl⟩,hn.1,hn.2,by omega,rfl⟩
 case rest =>
  rintro e st ⟨rfl,x,hI,h0⟩
  rcases h0 with h0|⟨l',g,h0,Gl⟩
  ·simp only[Z8,seval,hI,h0,UA];exact⟨_,Xc (n:=([IntKind.u8.wrap x]:List Int).length) (cs:=kF [IntKind.u8.wrap x]) (aI (by decide)) (.inl rfl) rfl (by simp only[E8,seval]<;>rfl) (by simp only[E8,seval]<;>rfl) (vM _),_,rfl,by rw[List.length_cons,List.length_nil];omega⟩
  ·have Qe:(l'.length:Int)<1000000:=by omega
   simp only[Z8,seval,hI,h0,Lh _ _ _ _ Qe];exact⟨_,sP rfl (by simp only[E8,seval]<;>rfl) (by simp only[E8,seval]<;>rfl) (vM _),_,rfl,by rw[List.length_append,List.length_cons,List.length_nil];omega⟩
theorem GK (r:cK):Wr 226 [.agg (aX r)] 32:=by
 intro l hl;suffices h:∃x,aC Tryz.prog 226 [.uniq 5 1 l.length (kF l),.agg (aX r)]=some x∧∃m:List Int,x=.uniq 5 1 m.length (kF m)∧(m.length:Int)≤l.length+32 by
  obtain⟨r,h,m,rfl,h2⟩:=h;exact⟨m,h,h2⟩
 have Qe:(l.length:Int)<1000000:=by omega
 have hc:aX r=kF r.toList:=MM r
 have hr:(r.toList.length:Int)<1000000:=by simp
 rw[Iz Tryz.prog Tryz.func226 rfl aK8 _ _ _ _ _ (sE _ _)];simp only[Z8,seval,jB,mI,jC,kU,mJ,aK7 r,P6 _ _ _ r,UB _ _ _ _ Qe hr];exact⟨_,zI (.inl rfl) rfl (by simp only[E8,seval]<;>rfl) (by simp only[E8,seval]<;>rfl) (zJ _),_,rfl,by rw[List.length_append];simp⟩
theorem P7 (c:fS) (h:Rg c.aK):Wr 228 [.agg (bY c)] 42:=by
 intro l hl;suffices h:∃r,aC Tryz.prog 228 [.uniq 5 1 l.length (kF l),.agg (bY c)]=some r∧∃m:List Int,r=.uniq 5 1 m.length (kF m)∧(m.length:Int)≤l.length+42 by
  obtain⟨r,h,m,rfl,h2⟩:=h;exact⟨m,h,h2⟩
 obtain⟨m1,e1,b1⟩:=(Xb c.aK h).at (cV (.v _)) (l:=l) (by omega)
 obtain⟨m2,e2,b2⟩:=(GK c.root).at (cV (qK _)) (l:=m1) (by omega)
 rw[YO Tryz.prog Tryz.func228 rfl aK9 (by kernel_rfl) _ _ _ _ _ (sE _ _)]
 simp only[ZG,seval,Bool.false_and,Prod.mk.injEq,aLa,jB,mI,jC,kU,mJ,e1,e2];exact⟨_,zI (.inl rfl) rfl (by simp only[E8,seval]<;>rfl) (by simp only[E8,seval]<;>rfl) (zJ _),_,rfl,by omega⟩
end Go.Ab.Tryz
end
namespace Go.Ab.Tryz
open Classical Go.Proofs Go.Ab
theorem aLb (o p:Option (List Int)) (hn:((ol o).length:Int)<1000000):∃r,aC Tryz.prog 105 [ov aJ o,ov aJ p]=some r∧∃b:Bool,r=.v (.bool b):=by
 rw[cL Tryz.func105 rfl aEG (by cases o<;>cases p<;>rfl)]
 by_cases g:((ol o).length:Int)=((ol p).length:Int)
 case neg =>
  simp only[Z8,seval,bf g];exact⟨_,bW rfl (by simp only[E8,seval]<;>rfl) (by first|exact .v _|simp only[dW]),_,rfl⟩
 simp only[Z8,seval,bt g];refine cM (fun m st=>∃k:Nat,(st.env 0=ov aJ o∧st.env 1=ov aJ p∧st.env 5=.v (.int .i64 k))∧k≤(ol o).length∧m=(ol o).length-k)
  (fun e st=>(e=.ret∧st.env 4=.v (.bool false))∨e=.exit 0) (ol o).length ?step ?start ?rest
 case step =>
  rintro m st ⟨k,hI,hk,hm⟩
  by_cases bA:(k:Int)<(ol o).length
  ·have q0:(0:Int)≤k:=by omega
   have q1:(k:Int)<((ol p).length:Int):=by omega
   have hw:IntKind.i64.wrap ((k:Int)+1)=((k+1:Nat):Int):=by rw[pR _ (by omega) (by omega)];omega
   by_cases hh:gx (0:Int) (ol o) (k:Int)=gx (0:Int) (ol p) (k:Int)
   ·apply oN ((ol o).length-(k+1))
    ·simp only[Z8,seval,hI,bA,q0,q1,bt hh,hw];rfl
    ·exact⟨k+1,by simp only[E8,seval,hI],by omega,rfl⟩
   ·apply oT (.ret)
    ·simp only[Z8,seval,hI,bA,q0,q1,bf hh];rfl
    ·exact .inl ⟨rfl,by simp only[E8,seval]⟩
  ·apply oT (.exit 0)
   ·simp only[Z8,seval,hI,bA];rfl
   ·exact .inr rfl
 case start=>exact⟨0,by simp only[E8,seval]<;>rfl,by omega,by omega⟩
 case rest =>
  rintro e st (⟨rfl,h⟩|rfl)
  ·simp only[Z8,seval,h];exact⟨_,bW rfl (by simp only[E8,seval,h]<;>rfl) (by first|exact .v _|simp only[dW,h]),_,rfl⟩
  ·simp only[Z8,seval];exact⟨_,bW rfl (by simp only[E8,seval]<;>rfl) (by first|exact .v _|simp only[dW]),_,rfl⟩
theorem aPK (o p:Option (List Int)) (hn:((ol o).length:Int)<1000000):∃r,aC Tryz.prog 103 [ov bD o,ov bD p]=some r∧∃b:Bool,r=.v (.bool b):=by
 rw[cL Tryz.func103 rfl aEH (by cases o<;>cases p<;>rfl)]
 by_cases g:((ol o).length:Int)=((ol p).length:Int)
 case neg =>
  simp only[Z8,seval,bf g];exact⟨_,bW rfl (by simp only[E8,seval]<;>rfl) (by first|exact .v _|simp only[dW]),_,rfl⟩
 simp only[Z8,seval,bt g];refine cM (fun m st=>∃k:Nat,(st.env 0=ov bD o∧st.env 1=ov bD p∧st.env 5=.v (.int .i64 k))∧k≤(ol o).length∧m=(ol o).length-k)
  (fun e st=>(e=.ret∧st.env 4=.v (.bool false))∨e=.exit 0) (ol o).length ?step ?start ?rest
 case step =>
  rintro m st ⟨k,hI,hk,hm⟩
  by_cases bA:(k:Int)<(ol o).length
  ·have q0:(0:Int)≤k:=by omega
   have q1:(k:Int)<((ol p).length:Int):=by omega
   have hw:IntKind.i64.wrap ((k:Int)+1)=((k+1:Nat):Int):=by rw[pR _ (by omega) (by omega)];omega
   by_cases hh:gx (0:Int) (ol o) (k:Int)=gx (0:Int) (ol p) (k:Int)
   ·apply oN ((ol o).length-(k+1))
    ·simp only[Z8,seval,hI,bA,q0,q1,bt hh,hw];rfl
    ·exact⟨k+1,by simp only[E8,seval,hI],by omega,rfl⟩
   ·apply oT (.ret)
    ·simp only[Z8,seval,hI,bA,q0,q1,bf hh];rfl
    ·exact .inl ⟨rfl,by simp only[E8,seval]⟩
  ·apply oT (.exit 0)
   ·simp only[Z8,seval,hI,bA];rfl
   ·exact .inr rfl
 case start=>exact⟨0,by simp only[E8,seval]<;>rfl,by omega,by omega⟩
 case rest =>
  rintro e st (⟨rfl,h⟩|rfl)
  ·simp only[Z8,seval,h];exact⟨_,bW rfl (by simp only[E8,seval,h]<;>rfl) (by first|exact .v _|simp only[dW,h]),_,rfl⟩
  ·simp only[Z8,seval];exact⟨_,bW rfl (by simp only[E8,seval]<;>rfl) (by first|exact .v _|simp only[dW]),_,rfl⟩
theorem aPL (a b:rX) (ha:Cq a) (hb:Cq b):∃r,aC Tryz.prog 108 [.agg (iB a),.agg (iB b)]=some r∧∃b:Bool,r=.v (.bool b):=by
 obtain⟨V,hV,nV⟩:=ha
 obtain⟨W,hW,nW⟩:=hb
 obtain⟨r1,e1,B,rfl⟩:=aLb V W nV
 have P8:=kx e1 (bH (bS V) (bS W)) (.v _)
 rw[cL Tryz.func108 rfl aEI rfl];by_cases g1:a.slot=b.slot
 case neg =>
  simp only[Z8,seval,hV,hW,bf g1];exact⟨_,bW rfl (by simp only[E8,seval]<;>rfl) (by first|exact .v _|simp only[dW]),_,rfl⟩
 by_cases g2:a.root=b.root
 case neg =>
  simp only[Z8,seval,hV,hW,bt g1,g2];exact⟨_,bW rfl (by simp only[E8,seval]<;>rfl) (by first|exact .v _|simp only[dW]),_,rfl⟩
 by_cases g3:a.target=b.target
 case neg =>
  simp only[Z8,seval,hV,hW,bt g1,g2,g3];exact⟨_,bW rfl (by simp only[E8,seval]<;>rfl) (by first|exact .v _|simp only[dW]),_,rfl⟩
 simp only[Z8,seval,hV,hW,bt g1,g2,g3,P8];exact⟨_,bW rfl (by simp only[E8,seval]<;>rfl) (by first|exact .v _|simp only[dW]),_,rfl⟩
theorem aPM (a b:Table) (ha:sC a) (hb:sC b):∃r,aC Tryz.prog 159 [.agg (cI a),.agg (cI b)]=some r∧∃b:Bool,r=.v (.bool b):=by
 obtain⟨V,hV,nV⟩:=ha
 obtain⟨W,hW,nW⟩:=hb
 obtain⟨r1,e1,B,rfl⟩:=aPK V W nV
 have aB5:=kx e1 (bH (dR V) (dR W)) (.v _)
 rw[cL Tryz.func159 rfl aEJ rfl];by_cases g1:a.ck=b.ck
 case neg =>
  simp only[Z8,seval,hV,hW,g1];exact⟨_,bW rfl (by simp only[E8,seval]<;>rfl) (by first|exact .v _|simp only[dW]),_,rfl⟩
 simp only[Z8,seval,hV,hW,g1,aB5];exact⟨_,bW rfl (by simp only[E8,seval]<;>rfl) (by first|exact .v _|simp only[dW]),_,rfl⟩
def wN (a:Claim):Prop:=∃V:Option (List Int),a.eY=ov aJ V∧((ol V).length:Int)≤1000
theorem wN.fl {a:Claim} (h:wN a):Flat (.agg (gV a)):=by obtain⟨V,h,_⟩:=h;exact (zD a).2 (by rw[h];exact bS V)
theorem aLc (a b:Claim) (ha:wN a) (hb:wN b):∃r,aC Tryz.prog 232 [.agg (gV a),.agg (gV b)]=some r∧∃b:Bool,r=.v (.bool b):=by
 obtain⟨V,hV,nV⟩:=ha
 obtain⟨W,hW,nW⟩:=hb
 obtain⟨r1,e1,B,rfl⟩:=aLb V W (by omega)
 have P8:=kx e1 (bH (bS V) (bS W)) (.v _)
 rw[cL Tryz.func232 rfl aLd rfl];by_cases g1:a.source=b.source
 case neg =>
  simp only[Z8,seval,hV,hW,bf g1];exact⟨_,bW rfl (by simp only[E8,seval]<;>rfl) (by first|exact .v _|simp only[dW]),_,rfl⟩
 by_cases g2:a.target=b.target
 case neg =>
  simp only[Z8,seval,hV,hW,bt g1,bf g2];exact⟨_,bW rfl (by simp only[E8,seval]<;>rfl) (by first|exact .v _|simp only[dW]),_,rfl⟩
 by_cases g3:a.root=b.root
 case neg =>
  simp only[Z8,seval,hV,hW,bt g1,bt g2,g3];exact⟨_,bW rfl (by simp only[E8,seval]<;>rfl) (by first|exact .v _|simp only[dW]),_,rfl⟩
 simp only[Z8,seval,hV,hW,bt g1,bt g2,g3,P8];exact⟨_,bW rfl (by simp only[E8,seval]<;>rfl) (by first|exact .v _|simp only[dW]),_,rfl⟩
theorem aPN (a b:fZ) (h1:wN a.first) (h2:wN a.second) (h3:wN b.first) (h4:wN b.second):∃r,aC Tryz.prog 216 [.agg (cB a),.agg (cB b)]=some r∧∃b:Bool,r=.v (.bool b):=by
 obtain⟨r1,e1,B1,rfl⟩:=aLc a.first b.first h1 h3
 obtain⟨r2,e2,B2,rfl⟩:=aLc a.second b.second h2 h4
 have k1:=kx e1 (bH h1.fl h3.fl) (.v _)
 have k2:=kx e2 (bH h2.fl h4.fl) (.v _)
 rw[cL Tryz.func216 rfl aLe rfl];cases B1
 ·simp only[Z8,seval,k1];exact⟨_,bW rfl (by simp only[E8,seval]<;>rfl) (by first|exact .v _|simp only[dW]),_,rfl⟩
 ·simp only[Z8,seval,k1,k2];exact⟨_,bW rfl (by simp only[E8,seval]<;>rfl) (by first|exact .v _|simp only[dW]),_,rfl⟩
structure pE (x:wZ):Prop where
 Ge:∃V:Option (List Int),x.Ge.eY=ov aJ V∧((ol V).length:Int)≤1000
 c1:wN x.oU.first
 c2:wN x.oU.second
 UC:∃b:Option (List Int),x.table.jN=ov bD b∧((ol b).length:Int)≤1000∧∀y∈ol b,Rg y
 rb:RB x.block
 ra:Rg x.Ge.slot∧Rg x.Ge.target.aK
 rs:Rg x.oU.first.source∧Rg x.oU.first.target∧Rg x.oU.second.source∧Rg x.oU.second.target
 rt:Rg x.table.ck.aK
 rv:Rg x.verdict.tagged.tag
theorem pE.aEK {x:wZ} (h:pE x):Cq x.Ge:=by obtain⟨V,h1,h2⟩:=h.Ge;exact⟨V,h1,by omega⟩
theorem pE.P9 {x:wZ} (h:pE x):sC x.table:=by obtain⟨V,h1,h2,_⟩:=h.UC;exact⟨V,h1,by omega⟩
theorem pE.fl {x:wZ} (h:pE x):Flat x.Ge.eY∧Flat x.oU.first.eY∧Flat x.oU.second.eY∧Flat x.table.jN:=by
 obtain⟨V,h1,_⟩:=h.Ge;obtain⟨V2,h2,_⟩:=h.c1;obtain⟨V3,h3,_⟩:=h.c2;obtain⟨V4,h4,_⟩:=h.UC
 rw[h1,h2,h3,h4];exact⟨bS _,bS _,bS _,dR _⟩
theorem pE.flat {x:wZ} (h:pE x):Flat (.agg (lC x)):=(TB x).2 h.fl
theorem UD (a b:wZ) (ha:pE a) (hb:pE b):∃r,aC Tryz.prog 201 [.agg (lC a),.agg (lC b)]=some r∧∃b:Bool,r=.v (.bool b):=by
 have fa:=ha.fl
 have fb:=hb.fl
 obtain⟨r1,e1,B1,rfl⟩:=aPL a.Ge b.Ge ha.aEK hb.aEK
 obtain⟨r2,e2,B2,rfl⟩:=aPN a.oU b.oU ha.c1 ha.c2 hb.c1 hb.c2
 obtain⟨r3,e3,B3,rfl⟩:=aPM a.table b.table ha.P9 hb.P9
 have k1:=kx e1 (bH ((zC _).2 fa.1) ((zC _).2 fb.1)) (.v _)
 have k2:=kx e2 (bH ((nG _).2 ⟨fa.2.1,fa.2.2.1⟩) ((nG _).2 ⟨fb.2.1,fb.2.2.1⟩)) (.v _)
 have k3:=kx e3 (bH ((kK _).2 fa.2.2.2) ((kK _).2 fb.2.2.2)) (.v _)
 rw[cL Tryz.func201 rfl aLf rfl];by_cases g1:a.kind=b.kind
 case neg =>
  simp only[Z8,seval,pJ,pK,bf g1];exact⟨_,bW rfl (by simp only[E8,seval]<;>rfl) (by first|exact .v _|simp only[dW]),_,rfl⟩
 by_cases g2:a.block=b.block
 case neg =>
  simp only[Z8,seval,pJ,pK,bt g1,g2];exact⟨_,bW rfl (by simp only[E8,seval]<;>rfl) (by first|exact .v _|simp only[dW]),_,rfl⟩
 cases B1
 ·simp only[Z8,seval,pJ,pK,bt g1,g2,k1];exact⟨_,bW rfl (by simp only[E8,seval]<;>rfl) (by first|exact .v _|simp only[dW]),_,rfl⟩
 cases B2
 ·simp only[Z8,seval,pJ,pK,bt g1,g2,k1,k2];exact⟨_,bW rfl (by simp only[E8,seval]<;>rfl) (by first|exact .v _|simp only[dW]),_,rfl⟩
 cases B3
 ·simp only[Z8,seval,pJ,pK,bt g1,g2,k1,k2,k3];exact⟨_,bW rfl (by simp only[E8,seval]<;>rfl) (by first|exact .v _|simp only[dW]),_,rfl⟩
 by_cases g3:a.verdict=b.verdict
 case neg =>
  simp only[Z8,seval,pJ,pK,bt g1,g2,k1,k2,k3,g3];exact⟨_,bW rfl (by simp only[E8,seval]<;>rfl) (by first|exact .v _|simp only[dW]),_,rfl⟩
 by_cases g4:a.write=b.write
 case neg =>
  simp only[Z8,seval,pJ,pK,bt g1,g2,k1,k2,k3,g3,bf g4];exact⟨_,bW rfl (by simp only[E8,seval]<;>rfl) (by first|exact .v _|simp only[dW]),_,rfl⟩
 simp only[Z8,seval,pJ,pK,bt g1,g2,k1,k2,k3,g3,bt g4];exact⟨_,bW rfl (by simp only[E8,seval]<;>rfl) (by first|exact .v _|simp only[dW]),_,rfl⟩
theorem aB6 (cs:List AV) (o:Nat) (h:32≤cs.length-o):fD Tryz.prog 26 cs o=some (.agg (rd cs o 32)):=by
 have e:fP Tryz.prog 26=some (true,32):=by kernel_rfl
 unfold fD;simp only[e];rw[if_pos ⟨by omega,h⟩]
theorem Q0:tC Tryz.prog 26=some 32:=by kernel_rfl
theorem aLg:dZ Tryz.prog 26=some tE:=by kernel_rfl
theorem aLh:jM Tryz.prog 26=some (32,1):=by kernel_rfl
theorem aLi:dM Tryz.prog 26=none:=by kernel_rfl
theorem aLj (r:cK) (st:St) (s g o:Nat) (h:st.heap s g=some (.cells (aX r))):cW Tryz.prog st 26 (.ptr s g o) none none=some (.vw s g o 32):=by
 simp only[cW,aLi,aLh,h]
theorem aF3 (st:St) (x:AV) {k:IntKind} {i:Int} (h0:0≤i) (h1:i<32):bF Tryz.prog st 26 x (.v (.int k i))=vA x (i.toNat * 1):=FQ aLh st x h0 h1
theorem xF (x:Int):(IntKind.u64.wrap x<0)=False:=by
 refine eq_false ?_
 unfold IntKind.wrap;simp[IntKind.signed,IntKind.bits]
 omega
theorem aPO (w:qR):∃r:cK,aC Tryz.prog 246 [.agg (gH w)]=some (.agg (aX r)):=by
 suffices h:∃x,aC Tryz.prog 246 [.agg (gH w)]=some x∧∃r:cK,x=.agg (aX r) by
  obtain⟨x,h,r,rfl⟩:=h;exact⟨r,h⟩
 rw[cL Tryz.func246 rfl aLk rfl];simp only[Z8,seval,aLg];refine cM (fun m st=>∃(k:Nat) (r:cK),(st.env 1=.ptr 1 0 0∧st.heap 1 0=some (.cells (gH w))∧st.env 3=.ptr 3 0 0∧st.heap 3 0=some (.cells (aX r))∧st.env 2=.ptr 2 0 0∧st.heap 2 0=some (.cells (aX dL))∧st.env 4=.v (.int .i64 k))∧k≤32∧m=32-k)
  (fun e st=>e=.exit 0∧∃r:cK,st.env 3=.ptr 3 0 0∧st.heap 3 0=some (.cells (aX r))∧st.env 2=.ptr 2 0 0∧st.heap 2 0=some (.cells (aX dL))) 32 ?step ?start ?rest
 case step =>
  rintro m st ⟨k,r,hI,hk,hm⟩
  by_cases bA:(k:Int)<32
  ·have q0:(0:Int)≤k:=by omega
   have hw:IntKind.i64.wrap ((k:Int)+1)=((k+1:Nat):Int):=by rw[pR _ (by omega) (by omega)];omega
   obtain⟨i,hi⟩:∃i:Int,i=31-(k:Int):=⟨_,rfl⟩
   have hi1:IntKind.i64.wrap (31-(k:Int))=i:=by rw[pR _ (by omega) (by omega),hi]
   have i0:0≤i:=by omega
   have i1:i<32:=by omega
   have hj:IntKind.i64.wrap ((k:Int).tdiv 8)=(k:Int) / 8:=by rw[Int.tdiv_eq_ediv_of_nonneg q0,pR _ (by omega) (by omega)]
   have j0:0≤(k:Int) / 8:=by omega
   have j1:(k:Int) / 8<4:=by omega
   have i31:i.toNat≤31:=by omega
   have gw:=Qn w j0 j1
   have Wa:=fun x=>Vv r i.toNat (i.toNat+1) x (by omega) rfl
   apply oN (32-(k+1))
   ·simp only[Z8,seval,hI,bA,q0,hi1,i0,i1,hj,j0,j1,Hb,aF3,gw,i31,Wa,xF,Nat.mul_one,hw];rfl
   ·exact⟨k+1,_,by simp only[E8,seval,hI]<;>rfl,by omega,rfl⟩
  ·apply oT (.exit 0)
   ·simp only[Z8,seval,hI,bA];rfl
   ·exact⟨rfl,r,by simp only[E8,seval,hI]⟩
 case start=>exact⟨0,dL,by simp only[E8,seval]<;>rfl,by omega,by omega⟩
 case rest =>
  rintro e st ⟨rfl,r,hI⟩
  simp only[Z8,seval,hI,aB6,Q0];exact⟨_,fL rfl (by simp only[E8,seval,hI,aB6,Q0]<;>rfl) (by simp only[Z8,seval,hI,aB6,Q0]<;>rfl) (by simp only[dW,and_self,hI,aB6,Q0]),r,rfl⟩
theorem aPP (w:qR):∃r:cK,∀(st:St) (d:Option Nat),aL (aC Tryz.prog) 246 [.agg (gH w)] st d=some { dst:=d,val:=.agg (aX r)}:=by
 obtain⟨r,h⟩:=aPO w
 exact⟨r,kx h (cV (.agg _ (iO w))) (qK r)⟩
theorem aLl (x:qR):Wr 227 [.agg (gH x)] 32:=by
 intro l hl;suffices h:∃r,aC Tryz.prog 227 [.uniq 5 1 l.length (kF l),.agg (gH x)]=some r∧∃m:List Int,r=.uniq 5 1 m.length (kF m)∧(m.length:Int)≤l.length+32 by
  obtain⟨r,h,m,rfl,h2⟩:=h;exact⟨m,h,h2⟩
 have Qe:(l.length:Int)<1000000:=by omega
 obtain⟨r,kr⟩:=aPP x
 have hr:(r.toList.length:Int)<1000000:=by simp
 rw[Iz Tryz.prog Tryz.func227 rfl aLm _ _ _ _ _ (sE _ _)];simp only[Z8,seval,jB,mI,jC,kU,mJ,kr,aLg,Q0,aLj r,P6 _ _ _ r,UB _ _ _ _ Qe hr];exact⟨_,zI (.inl rfl) rfl (by simp only[E8,seval]<;>rfl) (by simp only[E8,seval]<;>rfl) (zJ _),_,rfl,by rw[List.length_append];simp⟩
theorem aPQ (b:Bool):Wr 229 [.v (.bool b)] 1:=by
 intro l hl;suffices h:∃r,aC Tryz.prog 229 [.uniq 5 1 l.length (kF l),.v (.bool b)]=some r∧∃m:List Int,r=.uniq 5 1 m.length (kF m)∧(m.length:Int)≤l.length+1 by
  obtain⟨r,h,m,rfl,h2⟩:=h;exact⟨m,h,h2⟩
 have Qe:(l.length:Int)<1000000:=by omega
 rw[Iz Tryz.prog Tryz.func229 rfl aLn _ _ _ _ _ (sE _ _)];cases b
 all_goals
  simp only[Z8,seval,jB,mI,jC,kU,mJ,Lh _ _ _ _ Qe];exact⟨_,zI (.inl rfl) rfl (by simp only[E8,seval]<;>rfl) (by simp only[E8,seval]<;>rfl) (zJ _),_,rfl,by rw[List.length_append,List.length_cons,List.length_nil];omega⟩
theorem jW (x:Int):Rg (IntKind.u64.wrap x):=by
 unfold Rg IntKind.wrap;simp[IntKind.signed,IntKind.bits]
 omega
theorem aF4 (V:Option (List Int)) (nV:((ol V).length:Int)≤1000):Wr 230 [ov aJ V] 10010:=by
 intro l hl;suffices h:∃r,aC Tryz.prog 230 [.uniq 5 1 l.length (kF l),ov aJ V]=some r∧∃m:List Int,r=.uniq 5 1 m.length (kF m)∧(m.length:Int)≤l.length+10010 by
  obtain⟨r,h,m,rfl,h2⟩:=h;exact⟨m,h,h2⟩
 obtain⟨m1,e1,b1⟩:=(Xb _ (jW ((ol V).length:Int))).at (cV (.v _)) (l:=l) (by omega)
 rw[Iz Tryz.prog Tryz.func230 rfl aLo _ _ _ _ _ (sE _ _)];simp only[Z8,seval,jB,mI,jC,kU,mJ,e1];refine cM (fun m st=>∃(k:Nat) (p:List Int) (a g:Nat),(st.env 0=.own a g∧st.heap a g=some (.row 5 1 p.length (kF p))∧st.env 1=ov aJ V∧st.env 5=.v (.int .i64 k))∧((a=10∧g<st.aP 10)∨(a=24∧g<st.aP 24)∨(a=38∧g<st.aP 38))∧(p.length:Int)≤l.length+10+10 * k∧k≤(ol V).length∧m=(ol V).length-k)
  (fun e st=>e=.exit 0∧∃(p:List Int) (a g:Nat),(st.env 0=.own a g∧st.heap a g=some (.row 5 1 p.length (kF p)))∧(p.length:Int)≤l.length+10010) (ol V).length ?step ?start ?rest
 case step =>
  rintro m st ⟨k,p,a,g,hI,GJ,hp,hk,hm⟩
  by_cases bA:(k:Int)<(ol V).length
  ·have q0:(0:Int)≤k:=by omega
   have hw:IntKind.i64.wrap ((k:Int)+1)=((k+1:Nat):Int):=by rw[pR _ (by omega) (by omega)];omega
   have fin:∀(p':List Int),(p'.length:Int)≤p.length+10→(p'.length:Int)≤l.length+10+10 * ((k+1:Nat):Int):=fun p' h=>by omega
   by_cases h1:(k:Int)=0
   ·have z0:(0:Int)<((ol V).length:Int):=by omega
    have z1:(0:Int)≤0:=by omega
    obtain⟨p',e2,b2⟩:=(Xb _ (jW (gx (0:Int) (ol V) (0:Int)))).at (cV (.v _)) (l:=p) (by omega)
    rcases GJ with ⟨rfl,hg⟩|⟨rfl,hg⟩|⟨rfl,hg⟩
    ·apply oN ((ol V).length-(k+1))
     ·simp only[Z8,seval,hI,bA,q0,bt h1,z0,z1,e2,hw];rfl
     ·exact⟨k+1,p',_,_,⟨by simp only[E8,seval]<;>rfl,by simp only[E8,seval]<;>rfl,by simp only[E8,seval,hI],by simp only[E8,seval]⟩,.inr (.inl ⟨rfl,by simp only[E8,seval]<;>omega⟩),fin p' b2,by omega,rfl⟩
    ·have vL:(g=st.aP 24)=False:=eq_false (by omega)
     apply oN ((ol V).length-(k+1))
     ·simp only[Z8,seval,hI,vL,bA,q0,bt h1,z0,z1,e2,hw];rfl
     ·exact⟨k+1,p',_,_,⟨by simp only[E8,seval]<;>rfl,by simp only[E8,seval]<;>rfl,by simp only[E8,seval,hI],by simp only[E8,seval]⟩,.inr (.inl ⟨rfl,by simp only[E8,seval]<;>omega⟩),fin p' b2,by omega,rfl⟩
    ·apply oN ((ol V).length-(k+1))
     ·simp only[Z8,seval,hI,bA,q0,bt h1,z0,z1,e2,hw];rfl
     ·exact⟨k+1,p',_,_,⟨by simp only[E8,seval]<;>rfl,by simp only[E8,seval]<;>rfl,by simp only[E8,seval,hI],by simp only[E8,seval]⟩,.inr (.inl ⟨rfl,by simp only[E8,seval]<;>omega⟩),fin p' b2,by omega,rfl⟩
   ·have M6:IntKind.i64.wrap ((k:Int)-1)=(k:Int)-1:=pR _ (by omega) (by omega)
    have y0:(0:Int)≤(k:Int)-1:=by omega
    have y1:(k:Int)-1<((ol V).length:Int):=by omega
    obtain⟨p',e2,b2⟩:=(Xb _ (jW (IntKind.i64.wrap (IntKind.i64.wrap (gx (0:Int) (ol V) (k:Int)-gx (0:Int) (ol V) ((k:Int)-1))-1)))).at (cV (.v _)) (l:=p) (by omega)
    rcases GJ with ⟨rfl,hg⟩|⟨rfl,hg⟩|⟨rfl,hg⟩
    ·apply oN ((ol V).length-(k+1))
     ·simp only[Z8,seval,hI,bA,q0,bf h1,M6,y0,y1,e2,hw];rfl
     ·exact⟨k+1,p',_,_,⟨by simp only[E8,seval]<;>rfl,by simp only[E8,seval]<;>rfl,by simp only[E8,seval,hI],by simp only[E8,seval]⟩,.inr (.inr ⟨rfl,by simp only[E8,seval]<;>omega⟩),fin p' b2,by omega,rfl⟩
    ·apply oN ((ol V).length-(k+1))
     ·simp only[Z8,seval,hI,bA,q0,bf h1,M6,y0,y1,e2,hw];rfl
     ·exact⟨k+1,p',_,_,⟨by simp only[E8,seval]<;>rfl,by simp only[E8,seval]<;>rfl,by simp only[E8,seval,hI],by simp only[E8,seval]⟩,.inr (.inr ⟨rfl,by simp only[E8,seval]<;>omega⟩),fin p' b2,by omega,rfl⟩
    ·have vL:(g=st.aP 38)=False:=eq_false (by omega)
     apply oN ((ol V).length-(k+1))
     ·simp only[Z8,seval,hI,vL,bA,q0,bf h1,M6,y0,y1,e2,hw];rfl
     ·exact⟨k+1,p',_,_,⟨by simp only[E8,seval]<;>rfl,by simp only[E8,seval]<;>rfl,by simp only[E8,seval,hI],by simp only[E8,seval]⟩,.inr (.inr ⟨rfl,by simp only[E8,seval]<;>omega⟩),fin p' b2,by omega,rfl⟩
  ·apply oT (.exit 0)
   ·simp only[Z8,seval,hI,bA];rfl
   ·exact⟨rfl,p,a,g,by simp only[E8,seval,hI],by omega⟩
 case start=>exact⟨0,m1,10,0,by and_intros<;>(simp only[E8,seval,jB,mI,jC,kU,mJ]<;>rfl),.inl ⟨rfl,by simp only[E8,seval,jB,mI,jC,kU,mJ]<;>omega⟩,by omega,by omega,by omega⟩
 case rest =>
  rintro e st ⟨rfl,p,a,g,hI,hp⟩
  simp only[Z8,seval,hI];exact⟨_,zI (.inl rfl) rfl (by simp only[E8,seval]<;>rfl) (by simp only[E8,seval,hI]<;>rfl) (zJ _),_,rfl,hp⟩
theorem aPR (c:Claim) (V:Option (List Int)) (hV:c.eY=ov aJ V) (nV:((ol V).length:Int)≤1000) (h1:Rg c.source) (h2:Rg c.target):Wr 231 [.agg (gV c)] 10100:=by
 intro l hl;suffices h:∃r,aC Tryz.prog 231 [.uniq 5 1 l.length (kF l),.agg (gV c)]=some r∧∃m:List Int,r=.uniq 5 1 m.length (kF m)∧(m.length:Int)≤l.length+10100 by
  obtain⟨r,h,m,rfl,h2⟩:=h;exact⟨m,h,h2⟩
 obtain⟨m1,e1,b1⟩:=(Xb c.source h1).at (cV (.v _)) (l:=l) (by omega)
 obtain⟨m2,e2,b2⟩:=(Xb c.target h2).at (cV (.v _)) (l:=m1) (by omega)
 obtain⟨m3,e3,b3⟩:=(GK c.root).at (cV (qK _)) (l:=m2) (by omega)
 obtain⟨m4,e4,b4⟩:=(aF4 V nV).at (cV (bS V)) (l:=m3) (by omega)
 rw[YO Tryz.prog Tryz.func231 rfl aEL (by kernel_rfl) _ _ _ _ _ (sE _ _)]
 simp only[ZG,seval,Bool.false_and,Prod.mk.injEq,aEM,jB,mI,jC,kU,mJ,e1,e2,e3,e4,hV,Ay,Az,Fp,Fq];exact⟨_,zI (.inl rfl) rfl (by simp only[E8,seval]<;>rfl) (by simp only[E8,seval]<;>rfl) (zJ _),_,rfl,by omega⟩
theorem aPS (c:Claim) (V:Option (List Int)) (hV:c.eY=ov aJ V) (nV:((ol V).length:Int)≤1000) (h1:Rg c.source) (h2:Rg c.target):WrN 231 [.agg (gV c)] 10100:=by
 suffices h:∃r,aC Tryz.prog 231 [.v (.slice none 0 0),.agg (gV c)]=some r∧∃m:List Int,r=.uniq 5 1 m.length (kF m)∧(m.length:Int)≤10100 by
  obtain⟨r,h,m,rfl,h2⟩:=h;exact⟨m,h,h2⟩
 obtain⟨m1,e1,b1⟩:=(A6 c.source h1).at (cV (.v _))
 obtain⟨m2,e2,b2⟩:=(Xb c.target h2).at (cV (.v _)) (l:=m1) (by omega)
 obtain⟨m3,e3,b3⟩:=(GK c.root).at (cV (qK _)) (l:=m2) (by omega)
 obtain⟨m4,e4,b4⟩:=(aF4 V nV).at (cV (bS V)) (l:=m3) (by omega)
 rw[cG Tryz.func231 rfl aEL (by kernel_rfl) rfl]
 simp only[ZG,seval,Bool.false_and,Prod.mk.injEq,aEM,e1,e2,e3,e4,hV,Ay,Az,Fp,Fq];exact⟨_,sP rfl (by simp only[E8,seval]<;>rfl) (by simp only[E8,seval]<;>rfl) (vM _),_,rfl,by omega⟩
theorem aPT (x:Block) (h:RB x):WrN 210 [.agg (aU x)] 400:=by
 suffices h:∃r,aC Tryz.prog 210 [.v (.slice none 0 0),.agg (aU x)]=some r∧∃m:List Int,r=.uniq 5 1 m.length (kF m)∧(m.length:Int)≤400 by
  obtain⟨r,h,m,rfl,h2⟩:=h;exact⟨m,h,h2⟩
 obtain⟨m1,e1,b1⟩:=(A6 x.slot h.sl).at (cV (.v _))
 obtain⟨m2,e2,b2⟩:=(GK x.root).at (cV (qK _)) (l:=m1) (by omega)
 obtain⟨m3,e3,b3⟩:=(GK x.parent).at (cV (qK _)) (l:=m2) (by omega)
 obtain⟨m4,e4,b4⟩:=(GK x.iQ).at (cV (qK _)) (l:=m3) (by omega)
 obtain⟨m5,e5,b5⟩:=(aLl x.diff).at (cV (.agg _ (iO _))) (l:=m4) (by omega)
 obtain⟨m6,e6,b6⟩:=(aLl x.Wo).at (cV (.agg _ (iO _))) (l:=m5) (by omega)
 obtain⟨m7,e7,b7⟩:=(P7 x.hU h.j).at (cV (.agg _ (dC _))) (l:=m6) (by omega)
 obtain⟨m8,e8,b8⟩:=(P7 x.fin h.f).at (cV (.agg _ (dC _))) (l:=m7) (by omega)
 obtain⟨m9,e9,b9⟩:=(P7 x.dS.pj h.pj).at (cV (.agg _ (dC _))) (l:=m8) (by omega)
 obtain⟨m10,e10,b10⟩:=(P7 x.dS.pf h.pf).at (cV (.agg _ (dC _))) (l:=m9) (by omega)
 obtain⟨m11,e11,b11⟩:=(aPQ x.Bu).at (cV (.v _)) (l:=m10) (by omega)
 rw[cG Tryz.func210 rfl aLp (by kernel_rfl) rfl]
 simp only[ZG,seval,Bool.false_and,Prod.mk.injEq,aLq,e1,e2,e3,e4,e5,e6,e7,e8,e9,e10,e11];exact⟨_,sP rfl (by simp only[E8,seval]<;>rfl) (by simp only[E8,seval]<;>rfl) (vM _),_,rfl,by omega⟩
def xG (r:AV):Prop:=∃(o:Option (List Int)) (e:Int),r=.eN [ov kF o,.v (.int .i64 e)]
theorem xG.none (e:Int):xG (.eN [.v (.slice none 0 0),.v (.int .i64 e)]):=⟨Option.none,e,rfl⟩
theorem xG.some (l:List Int) (e:Int):xG (.eN [.sl l.length (kF l),.v (.int .i64 e)]):=⟨Option.some l,e,rfl⟩
theorem aPU (a:rX) (V:Option (List Int)) (hV:a.eY=ov aJ V) (nV:((ol V).length:Int)≤1000) (h1:Rg a.slot) (h2:Rg a.target.aK):∃r,aC Tryz.prog 211 [.agg (iB a)]=some r∧xG r:=by
 have KN:=kx (c40 V (by omega) 1024) (bH (bS V) (.v _)) (.v _)
 obtain⟨e,he⟩:∃e,AQ (ol V) 1024=e:=⟨_,rfl⟩
 rw[he] at KN;obtain⟨m1,e1,b1⟩:=(A6 a.slot h1).at (cV (.v _))
 obtain⟨m2,e2,b2⟩:=(GK a.root).at (cV (qK _)) (l:=m1) (by omega)
 obtain⟨m3,e3,b3⟩:=(P7 a.target h2).at (cV (.agg _ (dC _))) (l:=m2) (by omega)
 obtain⟨m4,e4,b4⟩:=(aF4 V nV).at (cV (bS V)) (l:=m3) (by omega)
 rw[cG Tryz.func211 rfl aLr (by kernel_rfl) rfl]
 by_cases g:e=0
 ·simp only[ZG,seval,Bool.false_and,Prod.mk.injEq,aEN,hV,KN,bt g,e1,e2,e3,e4,Ay,Az,Fp,Fq];exact⟨_,dO rfl rfl rfl (by simp only[E8,seval,Cw]<;>rfl) (by simp only[E8,seval,Cw]<;>rfl),xG.some _ _⟩
 ·simp only[ZG,seval,Bool.false_and,Prod.mk.injEq,aEN,hV,KN,bf g];exact⟨_,dO rfl rfl rfl (by simp only[E8,seval]<;>rfl) (by simp only[E8,seval]<;>rfl),xG.none _⟩
theorem aPV (a:fZ) (h1:wN a.first) (h2:wN a.second) (r1:Rg a.first.source) (r2:Rg a.first.target) (r3:Rg a.second.source) (r4:Rg a.second.target):∃r,aC Tryz.prog 212 [.agg (cB a)]=some r∧xG r:=by
 obtain⟨V,hV,nV⟩:=id h1
 obtain⟨W,hW,nW⟩:=id h2
 have kV:=kx (c40 V (by omega) 1024) (bH (bS V) (.v _)) (.v _)
 have kW:=kx (c40 W (by omega) 1024) (bH (bS W) (.v _)) (.v _)
 obtain⟨ev,AS⟩:∃e,AQ (ol V) 1024=e:=⟨_,rfl⟩
 obtain⟨ew,hew⟩:∃e,AQ (ol W) 1024=e:=⟨_,rfl⟩
 rw[AS] at kV;rw[hew] at kW;obtain⟨m1,e1,b1⟩:=(aPS a.first V hV nV r1 r2).at (cV h1.fl)
 obtain⟨m2,e2,b2⟩:=(aPR a.second W hW nW r3 r4).at (cV h2.fl) (l:=m1) (by omega)
 rw[cL Tryz.func212 rfl aLs rfl];by_cases g1:ev=0
 case neg =>
  simp only[Z8,seval,hV,hW,kV,bf g1];exact⟨_,dO rfl rfl rfl (by simp only[E8,seval]<;>rfl) (by simp only[E8,seval]<;>rfl),xG.none _⟩
 by_cases g2:ew=0
 case neg =>
  simp only[Z8,seval,hV,hW,kV,kW,bt g1,bf g2];exact⟨_,dO rfl rfl rfl (by simp only[E8,seval]<;>rfl) (by simp only[E8,seval]<;>rfl),xG.none _⟩
 simp only[Z8,seval,hV,hW,kV,kW,bt g1,bt g2,e1,e2];exact⟨_,dO rfl rfl rfl (by simp only[E8,seval,Cw]<;>rfl) (by simp only[E8,seval,Cw]<;>rfl),xG.some _ _⟩
theorem aPW (t:Table) (b:Option (List Int)) (hb:t.jN=ov bD b) (nb:((ol b).length:Int)≤1000) (rb:∀y∈ol b,Rg y) (rt:Rg t.ck.aK):∃r,aC Tryz.prog 213 [.agg (cI t)]=some r∧xG r:=by
 have hfT:Flat (.agg (cI t)):=(kK t).2 (by rw[hb];exact dR b)
 obtain⟨m1,e1,b1⟩:=(A6 t.ck.aK rt).at (cV (.v _))
 obtain⟨m2,e2,b2⟩:=(GK t.ck.root).at (cV (qK _)) (l:=m1) (by omega)
 obtain⟨m3,e3,b3⟩:=(Xb _ (jW ((ol b).length:Int))).at (cV (.v _)) (l:=m2) (by omega)
 rw[cG Tryz.func213 rfl aLt (by kernel_rfl) rfl]
 have g1:¬(1024:Int)<((ol b).length:Int):=by omega
 simp only[ZG,seval,Bool.false_and,Prod.mk.injEq,MN,hb,g1,e1,e2,e3,Ay,Az,Fp,Fq];refine lJ (fun m st=>∃(k:Nat) (p:List Int) (a g:Nat),(st.env 1=.ptr 1 0 0∧st.heap 1 0=some (.cells (cI t))∧st.env 4=.own a g∧st.heap a g=some (.row 5 1 p.length (kF p))∧st.env 5=.v (.int .i64 k))∧((a=22∧g=0)∨(a=36∧g<st.aP 36))∧(p.length:Int)≤100+10 * k∧k≤(ol b).length∧m=(ol b).length-k)
  (fun e st=>e=.exit 0∧∃(p:List Int) (a g:Nat),st.env 4=.own a g∧st.heap a g=some (.row 5 1 p.length (kF p))) (ol b).length ?step ?start ?rest
 case step =>
  rintro m st ⟨k,p,a,g,hI,GJ,hp,hk,hm⟩
  by_cases bA:(k:Int)<(ol b).length
  ·have q0:(0:Int)≤k:=by omega
   have hw:IntKind.i64.wrap ((k:Int)+1)=((k+1:Nat):Int):=by rw[pR _ (by omega) (by omega)];omega
   obtain⟨p',e4,b4⟩:=(Xb _ (rb _ (tY (z:=(0:Int)) q0 bA))).at (cV (.v _)) (l:=p) (by omega)
   rcases GJ with ⟨rfl,rfl⟩|⟨rfl,hg⟩
   ·apply Ct ((ol b).length-(k+1))
    ·simp only[ZG,seval,Bool.false_and,Prod.mk.injEq,MN,hI,bA,q0,hb,e4,hw];rfl
    ·exact⟨k+1,p',36,_,⟨by simp only[E8,seval,hI],by simp only[E8,seval,hI],by simp only[E8,seval]<;>rfl,by simp only[E8,seval]<;>rfl,by simp only[E8,seval]⟩,.inr ⟨rfl,by simp only[E8,seval]<;>omega⟩,by omega,by omega,rfl⟩
   ·have vL:(g=st.aP 36)=False:=eq_false (by omega)
    apply Ct ((ol b).length-(k+1))
    ·simp only[ZG,seval,Bool.false_and,Prod.mk.injEq,MN,hI,vL,bA,q0,hb,e4,hw];rfl
    ·exact⟨k+1,p',36,_,⟨by simp only[E8,seval,hI],by simp only[E8,seval,hI],by simp only[E8,seval]<;>rfl,by simp only[E8,seval]<;>rfl,by simp only[E8,seval]⟩,.inr ⟨rfl,by simp only[E8,seval]<;>omega⟩,by omega,by omega,rfl⟩
  ·apply FY (.exit 0)
   ·simp only[ZG,seval,Bool.false_and,Prod.mk.injEq,MN,hI,bA,hb];rfl
   ·exact⟨rfl,p,a,g,by simp only[E8,seval,hI],by simp only[E8,seval,hI]⟩
 case start=>exact⟨0,m3,22,0,by and_intros<;>(simp only[E8,seval]<;>rfl),.inl ⟨rfl,rfl⟩,by omega,by omega,by omega⟩
 case rest =>
  rintro e st ⟨rfl,p,a,g,h4,hh⟩
  simp only[ZG,seval,Bool.false_and,Prod.mk.injEq,MN,h4,hh];exact⟨_,dO rfl rfl rfl (by simp only[E8,seval,h4,hh,Cw]<;>rfl) (by simp only[E8,seval,h4,hh,Cw]<;>rfl),xG.some _ _⟩
theorem aPX (v:fM) (h:Rg v.tagged.tag):∃r,aC Tryz.prog 214 [.agg (bZ v)]=some r∧xG r:=by
 obtain⟨m1,e1,b1⟩:=(A6 v.tagged.tag h).at (cV (.v _))
 obtain⟨m2,e2,b2⟩:=(Xb _ (jW v.kind)).at (cV (.v _)) (l:=m1) (by omega)
 obtain⟨m3,e3,b3⟩:=(GK v.dQ).at (cV (qK _)) (l:=m2) (by omega)
 rw[cG Tryz.func214 rfl aLu (by kernel_rfl) rfl]
 by_cases g1:v.kind<1
 ·simp only[ZG,seval,Bool.false_and,Prod.mk.injEq,Q1,g1];exact⟨_,dO rfl rfl rfl (by simp only[E8,seval]<;>rfl) (by simp only[E8,seval]<;>rfl),xG.none _⟩
 by_cases g2:4<v.kind
 ·simp only[ZG,seval,Bool.false_and,Prod.mk.injEq,Q1,g1,g2];exact⟨_,dO rfl rfl rfl (by simp only[E8,seval]<;>rfl) (by simp only[E8,seval]<;>rfl),xG.none _⟩
 simp only[ZG,seval,Bool.false_and,Prod.mk.injEq,Q1,g1,g2,e1,e2,e3];exact⟨_,dO rfl rfl rfl (by simp only[E8,seval,Cw]<;>rfl) (by simp only[E8,seval,Cw]<;>rfl),xG.some _ _⟩
theorem aPY (x:wZ) (h:pE x):∃r,aC Tryz.prog 200 [.agg (lC x)]=some r∧xG r:=by
 have iX:=h.fl
 obtain⟨V,hV,nV⟩:=h.Ge
 obtain⟨b,hb,nb,rb⟩:=h.UC
 obtain⟨m1,e1,b1⟩:=(aPT x.block h.rb).at (cV (uT _))
 obtain⟨r2,e2,o2,f2,rfl⟩:=aPU x.Ge V hV nV h.ra.1 h.ra.2
 obtain⟨r3,e3,o3,f3,rfl⟩:=aPV x.oU h.c1 h.c2 h.rs.1 h.rs.2.1 h.rs.2.2.1 h.rs.2.2.2
 obtain⟨r4,e4,o4,f4,rfl⟩:=aPW x.table b hb nb rb h.rt
 obtain⟨r5,e5,o5,f5,rfl⟩:=aPX x.verdict h.rv
 have k2:=kx e2 (cV ((zC _).2 iX.1)) (.eN _ (bH (yL _) (.v _)))
 have k3:=kx e3 (cV ((nG _).2 ⟨iX.2.1,iX.2.2.1⟩)) (.eN _ (bH (yL _) (.v _)))
 have k4:=kx e4 (cV ((kK _).2 iX.2.2.2)) (.eN _ (bH (yL _) (.v _)))
 have k5:=kx e5 (cV (.agg _ (gN _))) (.eN _ (bH (yL _) (.v _)))
 obtain⟨m6,e6,b6⟩:=(A6 _ (jW x.write)).at (cV (.v _))
 obtain⟨m7,e7,b7⟩:=(Xb _ (jW x.qH)).at (cV (.v _)) (l:=m6) (by omega)
 rw[cL Tryz.func200 rfl aLv rfl];by_cases g2:x.kind=2
 ·simp only[Z8,seval,bt g2,e1];exact⟨_,dO rfl rfl rfl (by simp only[E8,seval,Cw]<;>rfl) (by simp only[E8,seval,Cw]<;>rfl),xG.some _ _⟩
 by_cases g3:x.kind=3
 ·simp only[Z8,seval,bf g2,bt g3,k2,eB];exact⟨_,dO rfl rfl rfl (by simp only[E8,seval,rK]<;>rfl) (by simp only[E8,seval,rK]<;>rfl),_,_,rfl⟩
 by_cases g4:x.kind=4
 ·simp only[Z8,seval,bf g2,bf g3,bt g4,k3,eB];exact⟨_,dO rfl rfl rfl (by simp only[E8,seval,rK]<;>rfl) (by simp only[E8,seval,rK]<;>rfl),_,_,rfl⟩
 by_cases g5:x.kind=5
 ·simp only[Z8,seval,bf g2,bf g3,bf g4,bt g5,k4,eB];exact⟨_,dO rfl rfl rfl (by simp only[E8,seval,rK]<;>rfl) (by simp only[E8,seval,rK]<;>rfl),_,_,rfl⟩
 by_cases g6:x.kind=6
 ·simp only[Z8,seval,bf g2,bf g3,bf g4,bf g5,bt g6,k5,eB];exact⟨_,dO rfl rfl rfl (by simp only[E8,seval,rK]<;>rfl) (by simp only[E8,seval,rK]<;>rfl),_,_,rfl⟩
 by_cases g8:x.kind=8
 case neg =>
  simp only[Z8,seval,bf g2,bf g3,bf g4,bf g5,bf g6,bf g8];exact⟨_,dO rfl rfl rfl (by simp only[E8,seval]<;>rfl) (by simp only[E8,seval]<;>rfl),xG.none _⟩
 by_cases w1:x.write<0
 ·simp only[Z8,seval,bf g2,bf g3,bf g4,bf g5,bf g6,bt g8,w1];exact⟨_,dO rfl rfl rfl (by simp only[E8,seval]<;>rfl) (by simp only[E8,seval]<;>rfl),xG.none _⟩
 by_cases w2:32768<x.write
 ·simp only[Z8,seval,bf g2,bf g3,bf g4,bf g5,bf g6,bt g8,w1,w2];exact⟨_,dO rfl rfl rfl (by simp only[E8,seval]<;>rfl) (by simp only[E8,seval]<;>rfl),xG.none _⟩
 by_cases w3:x.qH<0
 ·simp only[Z8,seval,bf g2,bf g3,bf g4,bf g5,bf g6,bt g8,w1,w2,w3];exact⟨_,dO rfl rfl rfl (by simp only[E8,seval]<;>rfl) (by simp only[E8,seval]<;>rfl),xG.none _⟩
 by_cases w4:32768<x.qH
 ·simp only[Z8,seval,bf g2,bf g3,bf g4,bf g5,bf g6,bt g8,w1,w2,w3,w4];exact⟨_,dO rfl rfl rfl (by simp only[E8,seval]<;>rfl) (by simp only[E8,seval]<;>rfl),xG.none _⟩
 simp only[Z8,seval,bf g2,bf g3,bf g4,bf g5,bf g6,bt g8,w1,w2,w3,w4,e6,e7];exact⟨_,dO rfl rfl rfl (by simp only[E8,seval,Cw]<;>rfl) (by simp only[E8,seval,Cw]<;>rfl),xG.some _ _⟩
theorem YQ:Rg 0:=⟨by omega,by omega⟩
theorem zOk:pE zK:=⟨⟨none,rfl,by simp[ol]⟩,⟨none,rfl,by simp[ol]⟩,⟨none,rfl,by simp[ol]⟩,⟨none,rfl,by simp[ol],by simp[ol]⟩,⟨YQ,YQ,YQ,YQ,YQ⟩,⟨YQ,YQ⟩,⟨YQ,YQ,YQ,YQ⟩,YQ,YQ⟩
theorem aPZ (x:wZ) (h:pE x):∃r,aC Tryz.prog 184 [.agg (lC x)]=some r∧∃e:Int,r=.v (.int .i64 e):=by
 have z:=zOk
 have hf:=h.flat
 obtain⟨r1,e1,o1,e,rfl⟩:=aPY x h
 have MO:=kx e1 (cV hf) (.eN _ (bH (yL _) (.v _)))
 rw[cG Tryz.func184 rfl aLw (by kernel_rfl) rfl]
 by_cases g1:x.kind<1
 ·simp only[ZG,seval,Bool.false_and,Prod.mk.injEq,Kc,g1];exact⟨_,bW rfl (by simp only[E8,seval]<;>rfl) (by first|exact .v _|simp only[dW]),_,rfl⟩
 by_cases g9:8<x.kind
 ·simp only[ZG,seval,Bool.false_and,Prod.mk.injEq,Kc,g1,g9];exact⟨_,bW rfl (by simp only[E8,seval]<;>rfl) (by first|exact .v _|simp only[dW]),_,rfl⟩
 by_cases g0:e=0
 case neg =>
  simp only[ZG,seval,Bool.false_and,Prod.mk.injEq,Kc,g1,g9,MO,eB,bf g0];exact⟨_,bW rfl (by simp only[E8,seval]<;>rfl) (by first|exact .v _|simp only[dW]),_,rfl⟩
 by_cases k2:x.kind=2
 ·have hy:pE { zK with kind:=x.kind,block:=x.block }:=⟨z.Ge,z.c1,z.c2,z.UC,h.rb,z.ra,z.rs,z.rt,z.rv⟩
  obtain⟨r2,e2,B,rfl⟩:=UD x { zK with kind:=x.kind,block:=x.block } h hy
  have Qu:=kx e2 (bH hf hy.flat) (.v _)
  have RW:=h.fl
  cases B
  all_goals
   simp only[ZG,seval,Bool.false_and,Prod.mk.injEq,Kc,g1,g9,MO,eB,bt g0,bt k2,Qu,Ay,Az,Fp,Fq];exact⟨_,bW rfl (by simp only[E8,seval]<;>rfl) (by first|exact .v _|simp only[dW]),_,rfl⟩
 by_cases k3:x.kind=3
 ·have hy:pE { zK with kind:=x.kind,Ge:=x.Ge }:=⟨h.Ge,z.c1,z.c2,z.UC,z.rb,h.ra,z.rs,z.rt,z.rv⟩
  obtain⟨r2,e2,B,rfl⟩:=UD x { zK with kind:=x.kind,Ge:=x.Ge } h hy
  have Qu:=kx e2 (bH hf hy.flat) (.v _)
  have RW:=h.fl
  cases B
  all_goals
   simp only[ZG,seval,Bool.false_and,Prod.mk.injEq,Kc,g1,g9,MO,eB,bt g0,bf k2,bt k3,Qu,Ay,Az,Fp,Fq];exact⟨_,bW rfl (by simp only[E8,seval]<;>rfl) (by first|exact .v _|simp only[dW]),_,rfl⟩
 by_cases k4:x.kind=4
 ·have hy:pE { zK with kind:=x.kind,oU:=x.oU }:=⟨z.Ge,h.c1,h.c2,z.UC,z.rb,z.ra,h.rs,z.rt,z.rv⟩
  obtain⟨r2,e2,B,rfl⟩:=UD x { zK with kind:=x.kind,oU:=x.oU } h hy
  have Qu:=kx e2 (bH hf hy.flat) (.v _)
  have RW:=h.fl
  cases B
  all_goals
   simp only[ZG,seval,Bool.false_and,Prod.mk.injEq,Kc,g1,g9,MO,eB,bt g0,bf k2,bf k3,bt k4,Qu,Ay,Az,Fp,Fq];exact⟨_,bW rfl (by simp only[E8,seval]<;>rfl) (by first|exact .v _|simp only[dW]),_,rfl⟩
 by_cases k5:x.kind=5
 ·have hy:pE { zK with kind:=x.kind,table:=x.table }:=⟨z.Ge,z.c1,z.c2,h.UC,z.rb,z.ra,z.rs,h.rt,z.rv⟩
  obtain⟨r2,e2,B,rfl⟩:=UD x { zK with kind:=x.kind,table:=x.table } h hy
  have Qu:=kx e2 (bH hf hy.flat) (.v _)
  have RW:=h.fl
  cases B
  all_goals
   simp only[ZG,seval,Bool.false_and,Prod.mk.injEq,Kc,g1,g9,MO,eB,bt g0,bf k2,bf k3,bf k4,bt k5,Qu,Ay,Az,Fp,Fq];exact⟨_,bW rfl (by simp only[E8,seval]<;>rfl) (by first|exact .v _|simp only[dW]),_,rfl⟩
 by_cases k6:x.kind=6
 ·have hy:pE { zK with kind:=x.kind,verdict:=x.verdict }:=⟨z.Ge,z.c1,z.c2,z.UC,z.rb,z.ra,z.rs,z.rt,h.rv⟩
  obtain⟨r2,e2,B,rfl⟩:=UD x { zK with kind:=x.kind,verdict:=x.verdict } h hy
  have Qu:=kx e2 (bH hf hy.flat) (.v _)
  have RW:=h.fl
  cases B
  all_goals
   simp only[ZG,seval,Bool.false_and,Prod.mk.injEq,Kc,g1,g9,MO,eB,bt g0,bf k2,bf k3,bf k4,bf k5,bt k6,Qu,Ay,Az,Fp,Fq];exact⟨_,bW rfl (by simp only[E8,seval]<;>rfl) (by first|exact .v _|simp only[dW]),_,rfl⟩
 by_cases k8:x.kind=8
 ·have hy:pE { zK with kind:=x.kind,write:=x.write,qH:=x.qH }:=⟨z.Ge,z.c1,z.c2,z.UC,z.rb,z.ra,z.rs,z.rt,z.rv⟩
  obtain⟨r2,e2,B,rfl⟩:=UD x { zK with kind:=x.kind,write:=x.write,qH:=x.qH } h hy
  have Qu:=kx e2 (bH hf hy.flat) (.v _)
  have RW:=h.fl
  cases B
  all_goals
   simp only[ZG,seval,Bool.false_and,Prod.mk.injEq,Kc,g1,g9,MO,eB,bt g0,bf k2,bf k3,bf k4,bf k5,bf k6,bt k8,Qu,Ay,Az,Fp,Fq];exact⟨_,bW rfl (by simp only[E8,seval]<;>rfl) (by first|exact .v _|simp only[dW]),_,rfl⟩
 have hy:pE { zK with kind:=x.kind }:=⟨z.Ge,z.c1,z.c2,z.UC,z.rb,z.ra,z.rs,z.rt,z.rv⟩
 obtain⟨r2,e2,B,rfl⟩:=UD x { zK with kind:=x.kind } h hy
 have Qu:=kx e2 (bH hf hy.flat) (.v _)
 have RW:=h.fl
 cases B
 all_goals
  simp only[ZG,seval,Bool.false_and,Prod.mk.injEq,Kc,g1,g9,MO,eB,bt g0,bf k2,bf k3,bf k4,bf k5,bf k6,bf k8,Qu,Ay,Az,Fp,Fq];exact⟨_,bW rfl (by simp only[E8,seval]<;>rfl) (by first|exact .v _|simp only[dW]),_,rfl⟩
theorem x45 (n bits:Int) (h0:0<n) (h1:n≤1000):∃r,aC Tryz.prog 45 [.v (.int .i64 n),.v (.int .i64 bits)]=some r∧∃l:List Int,r=.uniq 3 1 l.length (aJ l)∧(l.length:Int)≤n:=by
 rw[cL Tryz.func45 rfl aP0 rfl];simp only[Z8,seval];refine cM (fun m st=>∃k:Nat,(st.env 0=.v (.int .i64 n)∧st.env 1=.v (.int .i64 bits)∧st.env 6=.v (.int .i64 k))∧(st.env 5=.v (.slice none 0 0)∨∃(l:List Int) (g:Nat),(st.env 5=.own 21 g∧st.heap 21 g=some (.row 3 1 l.length (aJ l)))∧g<st.aP 21∧0<l.length∧l.length≤k)∧(k:Int)≤n∧m=(n-k).toNat)
  (fun e st=>e=.exit 0∧st.env 0=.v (.int .i64 n)∧(st.env 5=.v (.slice none 0 0)∨∃(l:List Int) (g:Nat),(st.env 5=.own 21 g∧st.heap 21 g=some (.row 3 1 l.length (aJ l)))∧0<l.length∧(l.length:Int)≤n)) n.toNat ?step ?start ?rest
 case step =>
  rintro m st ⟨k,hI,h5,hk,hm⟩
  by_cases bA:(k:Int)<n
  ·have q0:(0:Int)≤k:=by omega
   have hw:IntKind.i64.wrap ((k:Int)+1)=((k+1:Nat):Int):=by rw[pR _ (by omega) (by omega)];omega
   by_cases hh:IntKind.i64.wrap ((BitVec.ofInt IntKind.i64.bits (bits.fdiv (2 ^ min (IntKind.u64.wrap (k:Int)).toNat IntKind.i64.bits)) &&& BitVec.ofInt IntKind.i64.bits 1).toNat:Int)=1
   ·rcases h5 with h5|⟨l,g,h5,hg,hl0,hl⟩
    ·apply oN ((n-((k+1:Nat):Int)).toNat)
     ·simp only[Z8,seval,hI,h5,bA,q0,xF,bt hh,hw];rfl
     ·exact⟨k+1,by simp only[E8,seval,hI],.inr ⟨[(k:Int)],_,⟨by simp only[E8,seval]<;>rfl,by simp only[E8,seval]<;>rfl⟩,by simp only[E8,seval]<;>omega,by simp,by simp⟩,by omega,rfl⟩
    ·have vL:(g=st.aP 21)=False:=eq_false (by omega)
     have nl:(l.length:Int)<1000000:=by omega
     apply oN ((n-((k+1:Nat):Int)).toNat)
     ·simp only[Z8,seval,hI,h5,vL,bA,q0,xF,bt hh,hw,Ep _ _ _ _ nl];rfl
     ·exact⟨k+1,by simp only[E8,seval,hI],.inr ⟨l++[(k:Int)],_,⟨by simp only[E8,seval]<;>rfl,by simp only[E8,seval]<;>rfl⟩,by simp only[E8,seval]<;>omega,by simp,by rw[List.length_append,List.length_cons,List.length_nil];omega⟩,by omega,rfl⟩
   ·have h5':st.env 5=.v (.slice none 0 0)∨∃(l:List Int) (g:Nat),(st.env 5=.own 21 g∧st.heap 21 g=some (.row 3 1 l.length (aJ l)))∧g<st.aP 21∧0<l.length∧l.length≤k+1:=h5.imp id fun ⟨l,g,a,b,c,d⟩=>⟨l,g,a,b,c,by omega⟩
    apply oN ((n-((k+1:Nat):Int)).toNat)
    ·simp only[Z8,seval,hI,bA,q0,xF,bf hh,hw];rfl
    ·exact⟨k+1,by simp only[E8,seval,hI],by simpa only[E8,seval] using h5',by omega,rfl⟩
  ·have h5':st.env 5=.v (.slice none 0 0)∨∃(l:List Int) (g:Nat),(st.env 5=.own 21 g∧st.heap 21 g=some (.row 3 1 l.length (aJ l)))∧0<l.length∧(l.length:Int)≤n:=h5.imp id fun ⟨l,g,a,b,c,d⟩=>⟨l,g,a,c,by omega⟩
   apply oT (.exit 0)
   ·simp only[Z8,seval,hI,bA];rfl
   ·exact⟨rfl,by simp only[E8,seval,hI],by simpa only[E8,seval] using h5'⟩
 case start=>exact⟨0,by simp only[E8,seval]<;>rfl,.inl (by simp only[E8,seval]),by omega,by simp⟩
 case rest =>
  rintro e st ⟨rfl,h0',h5|⟨l,g,h5,hl0,hl⟩⟩
  ·simp only[Z8,seval,h0',h5,h0];exact⟨_,Xc (n:=([0]:List Int).length) (cs:=aJ [0]) (aI (by decide)) (.inl rfl) rfl (by simp only[E8,seval]<;>rfl) (by simp only[E8,seval]<;>rfl) (gF _),_,rfl,by simp;omega⟩
  ·have hn0:¬((l.length:Int)=0):=by omega
   simp only[Z8,seval,h0',h5,bf hn0];exact⟨_,sP rfl (by simp only[E8,seval,h5]<;>rfl) (by simp only[E8,seval,h5]<;>rfl) (gF _),l,rfl,hl⟩
theorem k45 (n bits:Int) (h0:0<n) (h1:n≤1000):∃l:List Int,(∀(st:St) (d:Nat),aL (aC Tryz.prog) 45 [.v (.int .i64 n),.v (.int .i64 bits)] st (some d)=some { dst:=some d,val:=.own d (st.aP d),new:=some (d,[.row 3 1 l.length (aJ l)])})∧(l.length:Int)≤n:=by
 obtain⟨r,hr,l,rfl,hl⟩:=x45 n bits h0 h1
 exact⟨l,fun st d=>jF (bH (.v _) (.v _)) hr,hl⟩
theorem x92 {s:aO} {v:SV} {q:Int} (h:GI s v q) (r:RG s v) (i e:Int) (he:Rg e):∃x,aC Tryz.prog 92 [.agg (aB s),.v (.int .i64 i),.v (.int .u64 e)]=some x∧∃c:fS,x=.agg (bY c)∧Rg c.aK:=by
 have Q2:=KZ v.ns h.up h.sd.nn i (IntKind.u64.wrap (e * s.cFg.qS))
 have hr:=DV h.up (i:=i) (s:=IntKind.u64.wrap (e * s.cFg.qS))
 obtain⟨k,hk⟩:∃k,FN v.ns i (IntKind.u64.wrap (e * s.cFg.qS))=k:=⟨_,rfl⟩
 rw[hk] at Q2 hr
 rw[cL Tryz.func92 rfl aP3 rfl];by_cases g1:k<0
 ·simp only[Z8,seval,h.sd.tree,Q2,g1];exact⟨_,fL rfl (by simp only[E8,seval,Aw]<;>rfl) (by simp only[Z8,seval,Aw]<;>rfl) (by simp only[dW,and_self,Aw]),_,rfl,r.f⟩
 ·have k0:0≤k:=by omega
  have k1:k<v.ns.length:=by omega
  simp only[Z8,seval,h.sd.tree,Q2,g1,k0,k1];exact⟨_,fL rfl (by simp only[E8,seval,Aw]<;>rfl) (by simp only[Z8,seval,Aw]<;>rfl) (by simp only[dW,and_self,Aw]),_,rfl,he⟩
theorem aP4 (n:Int):∃x,aC Tryz.prog 111 [.v (.int .i64 n)]=some x∧∃w:qR,x=.agg (gH w):=by
 obtain⟨j,hj⟩:∃j,(IntKind.i64.wrap ((BitVec.ofInt IntKind.i64.bits (((n).fdiv (2 ^ min 9 IntKind.i64.bits))) &&& BitVec.ofInt IntKind.i64.bits 3).toNat:Int))=j:=⟨_,rfl⟩
 have hb:=Is ((n).fdiv (2 ^ min 9 IntKind.i64.bits)) 3 (by decide)
 rw[hj] at hb;have j0:=hb.1
 have j1:j<4:=by omega
 have j3:j.toNat<4:=by omega
 have j4:j.toNat≤3:=by omega
 have Wa:∀(w:qR) (x:Int),dK (gH w) j.toNat [.v (.int .u64 x)] (j.toNat+1)=gH (w.set j.toNat x):=fun w x=>qU w j.toNat _ x j3 rfl
 have fw:∀w:qR,Flat (.agg (gH w))=True:=fun w=>eq_true (.agg _ (iO w))
 rw[cL Tryz.func111 rfl aLy rfl];by_cases c1:(IntKind.i64.wrap ((BitVec.ofInt IntKind.i64.bits (((n).fdiv (2 ^ min 7 IntKind.i64.bits))) &&& BitVec.ofInt IntKind.i64.bits 3).toNat:Int))=1
 ·simp only[Z8,seval,bt c1,qU,Nat.reduceLT,Hb,hj,j0,j1,j4,Wa,Nat.mul_one,xF];exact⟨_,fL rfl (by simp only[E8,seval,fw]<;>rfl) (by simp only[Z8,seval,fw]<;>rfl) (by simp only[dW,and_self,fw]),_,rfl⟩
 by_cases c2:(IntKind.i64.wrap ((BitVec.ofInt IntKind.i64.bits (((n).fdiv (2 ^ min 7 IntKind.i64.bits))) &&& BitVec.ofInt IntKind.i64.bits 3).toNat:Int))=2
 ·simp only[Z8,seval,bf c1,bt c2,qU,Nat.reduceLT,Hb,hj,j0,j1,j4,Wa,Nat.mul_one,xF];exact⟨_,fL rfl (by simp only[E8,seval,fw]<;>rfl) (by simp only[Z8,seval,fw]<;>rfl) (by simp only[dW,and_self,fw]),_,rfl⟩
 by_cases c3:(IntKind.i64.wrap ((BitVec.ofInt IntKind.i64.bits (((n).fdiv (2 ^ min 7 IntKind.i64.bits))) &&& BitVec.ofInt IntKind.i64.bits 3).toNat:Int))=3
 ·simp only[Z8,seval,bf c1,bf c2,bt c3,qU,Nat.reduceLT,Hb,hj,j0,j1,j4,Wa,Nat.mul_one,xF];exact⟨_,fL rfl (by simp only[E8,seval,fw]<;>rfl) (by simp only[Z8,seval,fw]<;>rfl) (by simp only[dW,and_self,fw]),_,rfl⟩
 simp only[Z8,seval,bf c1,bf c2,bf c3,qU,Nat.reduceLT,Hb,hj,j0,j1,j4,Wa,Nat.mul_one,xF];exact⟨_,fL rfl (by simp only[E8,seval,fw]<;>rfl) (by simp only[Z8,seval,fw]<;>rfl) (by simp only[dW,and_self,fw]),_,rfl⟩
theorem aP5 (n k:Int) (h0:0<n) (h1:n≤1000):∃r,aC Tryz.prog 182 [.v (.int .i64 n),.v (.int .i64 k)]=some r∧∃x:fZ,r=.agg (cB x)∧wN x.first∧wN x.second∧Rg x.first.source∧Rg x.first.target∧Rg x.second.source∧Rg x.second.target:=by
 obtain⟨l,kl,hl⟩:=k45 n k h0 h1
 obtain⟨m,km,hm⟩:=k45 n ((k).fdiv (2 ^ min 6 IntKind.i64.bits)) h0 h1
 have cl:wN ⟨1,5,mkRoot 2,ov aJ (some l)⟩:=⟨some l,rfl,by show (l.length:Int)≤1000;omega⟩
 have rg:∀x:Int,0≤x∧x≤6→Rg x:=fun x h=>⟨by omega,by omega⟩
 have okl:∀a b r,wN ⟨a,b,r,ov aJ (some l)⟩:=fun a b r=>⟨some l,rfl,by show (l.length:Int)≤1000;omega⟩
 have okm:∀a b r,wN ⟨a,b,r,ov aJ (some m)⟩:=fun a b r=>⟨some m,rfl,by show (m.length:Int)≤1000;omega⟩
 rw[cL Tryz.func182 rfl aLA rfl];by_cases c0:((((k).fdiv (2 ^ min 12 IntKind.i64.bits))).tmod 8)=0
 ·simp only[Z8,seval,kl,km,Qj,bt c0];exact⟨_,by apply eH;rfl;all_goals simp only[aI,Z8,seval,bR,rL,vN,bG,cO,jV,dW]<;>rfl,_,rfl,okm _ _ _,okl _ _ _,rg _ (by dsimp only;omega),rg _ (by dsimp only;omega),rg _ (by dsimp only;omega),rg _ (by dsimp only;omega)⟩
 by_cases c1:((((k).fdiv (2 ^ min 12 IntKind.i64.bits))).tmod 8)=1
 ·simp only[Z8,seval,kl,km,Qj,bf c0,bt c1];exact⟨_,by apply eH;rfl;all_goals simp only[aI,Z8,seval,bR,rL,vN,bG,cO,jV,dW]<;>rfl,_,rfl,okl _ _ _,okm _ _ _,rg _ (by dsimp only;omega),rg _ (by dsimp only;omega),rg _ (by dsimp only;omega),rg _ (by dsimp only;omega)⟩
 by_cases c2:((((k).fdiv (2 ^ min 12 IntKind.i64.bits))).tmod 8)=2
 ·simp only[Z8,seval,kl,km,Qj,bf c0,bf c1,bt c2];exact⟨_,by apply eH;rfl;all_goals simp only[aI,Z8,seval,bR,rL,vN,bG,cO,jV,dW]<;>rfl,_,rfl,okl _ _ _,okl _ _ _,rg _ (by dsimp only;omega),rg _ (by dsimp only;omega),rg _ (by dsimp only;omega),rg _ (by dsimp only;omega)⟩
 by_cases c3:((((k).fdiv (2 ^ min 12 IntKind.i64.bits))).tmod 8)=3
 ·simp only[Z8,seval,kl,km,Qj,bf c0,bf c1,bf c2,bt c3];exact⟨_,by apply eH;rfl;all_goals simp only[aI,Z8,seval,bR,rL,vN,bG,cO,jV,dW]<;>rfl,_,rfl,okl _ _ _,okm _ _ _,rg _ (by dsimp only;omega),rg _ (by dsimp only;omega),rg _ (by dsimp only;omega),rg _ (by dsimp only;omega)⟩
 by_cases c4:((((k).fdiv (2 ^ min 12 IntKind.i64.bits))).tmod 8)=4
 ·simp only[Z8,seval,kl,km,Qj,bf c0,bf c1,bf c2,bf c3,bt c4];exact⟨_,by apply eH;rfl;all_goals simp only[aI,Z8,seval,bR,rL,vN,bG,cO,jV,dW]<;>rfl,_,rfl,okl _ _ _,okm _ _ _,rg _ (by dsimp only;omega),rg _ (by dsimp only;omega),rg _ (by dsimp only;omega),rg _ (by dsimp only;omega)⟩
 simp only[Z8,seval,kl,km,Qj,bf c0,bf c1,bf c2,bf c3,bf c4];exact⟨_,by apply eH;rfl;all_goals simp only[aI,Z8,seval,bR,rL,vN,bG,cO,jV,dW]<;>rfl,_,rfl,okl _ _ _,okm _ _ _,rg _ (by dsimp only;omega),rg _ (by dsimp only;omega),rg _ (by dsimp only;omega),rg _ (by dsimp only;omega)⟩
theorem aP6 {s:aO} {v:SV} {q:Int} (h:GI s v q) (r:RG s v) (hB:0<(ol v.B).length∧(ol v.B).length≤64) (k:Int) (hk:0≤k):∃x,aC Tryz.prog 183 [.agg (aB s),.v (.int .i64 k)]=some x∧∃(t:Table) (b:List Int),x=.agg (cI t)∧t.jN=ov bD (some b)∧(b.length:Int)≤1000∧(∀y∈b,Rg y)∧Rg t.ck.aK:=by
 have hn:=h.sd.nn
 have hp:(0:Int)<(v.ns.length:Int):=by have:=h.pos;omega
 have gW:¬((v.ns.length:Int)=0):=by omega
 obtain⟨m1,m2⟩:=eG (n:=(v.ns.length:Int)) hk hp
 obtain⟨i,hi⟩:∃i,k.tmod (v.ns.length:Int)=i:=⟨_,rfl⟩
 rw[hi] at m1 m2;have Mq:=h.sp
 obtain⟨y,hy,c2,rfl,rc2⟩:=x92 h r i (Dv s s.now) (jW _)
 unfold Dv at hy;have Qv:=kx hy (nD h.sd.flat (.v _) (.v _)) (.agg _ (dC _))
 have rc1:Rg (nd v.ns i).block.dS.pj.aK:=(r.nd _ (GC m1 m2)).1.pj
 rw[cL Tryz.func183 rfl aLB rfl];by_cases c0:((((k).fdiv (2 ^ min 5 IntKind.i64.bits))).tmod 4)=0
 case neg =>
  simp only[Z8,seval,h.sd.tree,gW,hi,m1,m2,bf c0];refine cM (fun m st=>∃(j:Nat) (X:AV) (L:List Int),(st.env 1=.v (.int .i64 k)∧st.env 2=.ptr 2 0 0∧st.heap 2 0=some (.cells (aB s))∧st.env 4=.ptr 4 0 0∧st.heap 4 0=some (.cells (cI iW))∧st.env 6=.ptr 6 0 0∧st.heap 6 0=some (.cells (cI ⟨(nd v.ns i).block.dS.pj,X⟩))∧st.env 7=.v (.int .i64 j))∧((X=.v (.slice none 0 0)∧L=[])∨∃g,X=.own 55 g∧g<st.aP 55∧st.heap 55 g=some (.row 23 1 L.length (bD L)))∧(∀y∈L,Rg y)∧L.length=j∧j≤(ol v.B).length∧m=(ol v.B).length-j)
   (fun e st=>e=.exit 0∧∃(g:Nat) (L:List Int),(st.env 1=.v (.int .i64 k)∧st.env 2=.ptr 2 0 0∧st.heap 2 0=some (.cells (aB s))∧st.env 4=.ptr 4 0 0∧st.heap 4 0=some (.cells (cI iW))∧st.env 6=.ptr 6 0 0∧st.heap 6 0=some (.cells (cI ⟨(nd v.ns i).block.dS.pj,.own 55 g⟩))∧st.heap 55 g=some (.row 23 1 L.length (bD L)))∧(∀y∈L,Rg y)∧L.length=(ol v.B).length) (ol v.B).length ?step ?start ?rest
  case step =>
   rintro m st ⟨j,X,L,hI,hX,hL,hj,hjB,hm⟩
   by_cases bA:(j:Int)<(ol v.B).length
   ·have q0:(0:Int)≤j:=by omega
    have hw:IntKind.i64.wrap ((j:Int)+1)=((j+1:Nat):Int):=by rw[pR _ (by omega) (by omega)];omega
    have nL:(L.length:Int)<1000000:=by omega
    obtain⟨y,hy9⟩:∃y,IntKind.u64.wrap ((k.fdiv (2 ^ min (IntKind.u64.wrap (j:Int)).toNat IntKind.i64.bits)).tmod 50)=y:=⟨_,rfl⟩
    have ry:Rg y:=by rw[← hy9];exact jW _
    have AR:∀z∈L++[y],Rg z:=fun z hz=>(List.mem_append.1 hz).elim (hL z) fun e=>by rw[List.mem_singleton] at e;rw[e];exact ry
    have Qd:(L++[y]).length=j+1:=by rw[List.length_append,List.length_cons,List.length_nil];omega
    rcases hX with ⟨rfl,rfl⟩|⟨g,rfl,hg,hh⟩
    ·apply oN ((ol v.B).length-(j+1))
     ·simp only[Z8,seval,hI,bA,q0,h.sd.jN,xF,hy9,hw];rfl
     ·exact⟨j+1,_,[]++[y],⟨by simp only[E8,seval,hI],by simp only[E8,seval,hI],by simp only[E8,seval,hI],by simp only[E8,seval,hI],by simp only[E8,seval,hI],by simp only[E8,seval,hI],by simp only[E8,seval,hI]<;>rfl,by simp only[E8,seval]⟩,.inr ⟨_,rfl,by simp only[E8,seval]<;>omega,by simp only[E8,seval]<;>rfl⟩,AR,Qd,by omega,rfl⟩
    ·have vL:(g=st.aP 55)=False:=eq_false (by omega)
     apply oN ((ol v.B).length-(j+1))
     ·simp only[Z8,seval,hI,hh,vL,bA,q0,h.sd.jN,xF,hy9,hw,xV _ _ _ _ nL];rfl
     ·exact⟨j+1,_,L++[y],⟨by simp only[E8,seval,hI],by simp only[E8,seval,hI],by simp only[E8,seval,hI],by simp only[E8,seval,hI],by simp only[E8,seval,hI],by simp only[E8,seval,hI],by simp only[E8,seval,hI]<;>rfl,by simp only[E8,seval]⟩,.inr ⟨_,rfl,by simp only[E8,seval]<;>omega,by simp only[E8,seval]<;>rfl⟩,AR,Qd,by omega,rfl⟩
   ·rcases hX with ⟨rfl,rfl⟩|⟨g,rfl,hg,hh⟩
    ·simp at hj;omega
    ·apply oT (.exit 0)
     ·simp only[Z8,seval,hI,bA,h.sd.jN];rfl
     ·exact⟨rfl,g,L,by simp only[E8,seval,hI,hh],hL,by omega⟩
  case start=>exact⟨0,_,[],by and_intros<;>(simp only[E8,seval]<;>rfl),.inl ⟨rfl,rfl⟩,by simp,rfl,by omega,by omega⟩
  case rest =>
   rintro e st ⟨rfl,g,L,hI,hL,hlL⟩
   have nL:(L.length:Int)<1000000:=by omega
   by_cases d0:((((k).fdiv (2 ^ min 12 IntKind.i64.bits))).tmod 16)=0
   ·have AR:∀z∈L++[(1:Int)],Rg z:=fun z hz=>(List.mem_append.1 hz).elim (hL z) fun e=>by rw[List.mem_singleton] at e;rw[e];exact⟨by omega,by omega⟩
    simp only[Z8,seval,hI,bt d0,xV _ _ _ _ nL];exact⟨_,by apply eH;rfl;all_goals simp only[aI,Z8,seval,hI,bR,tD,bG,vI,dW]<;>rfl,⟨(nd v.ns i).block.dS.pj,_⟩,L++[1],rfl,rfl,by rw[List.length_append,List.length_cons,List.length_nil];omega,AR,rc1⟩
   by_cases d1:((((k).fdiv (2 ^ min 12 IntKind.i64.bits))).tmod 16)=1
   ·have z0:(0:Int)≤0:=by omega
    have z1:(0:Int)<(L.length:Int):=by omega
    have z2:0<L.length:=by omega
    have z3:1≤L.length:=z2
    have AR:∀z∈L.set 0 4611686018427387904,Rg z:=fun z hz=>(List.mem_or_eq_of_mem_set hz).elim (hL z) fun e=>by rw[e];exact⟨by omega,by omega⟩
    have xS:dK (bD L) 0 [.v (.int .u64 4611686018427387904)] 1=bD (L.set 0 4611686018427387904):=by
     cases L with
     | nil=>simp at z2
     | cons a L=>simp[dK,bD,sF]
    simp only[Z8,seval,hI,bf d0,bt d1,z0,z1,z3,xS,Int.toNat_zero,Nat.zero_mul];exact⟨_,by apply eH;rfl;all_goals simp only[aI,Z8,seval,hI,bR,tD,bG,vI,dW]<;>rfl,⟨(nd v.ns i).block.dS.pj,_⟩,L.set 0 4611686018427387904,rfl,by simp only[ov,List.length_set],by rw[List.length_set];omega,AR,rc1⟩
   simp only[Z8,seval,hI,bf d0,bf d1];exact⟨_,by apply eH;rfl;all_goals simp only[aI,Z8,seval,hI,bR,tD,bG,vI,dW]<;>rfl,⟨(nd v.ns i).block.dS.pj,_⟩,L,rfl,rfl,by omega,hL,rc1⟩
 simp only[Z8,seval,h.sd.tree,gW,hi,m1,m2,bt c0,Mq,Qv];refine cM (fun m st=>∃(j:Nat) (X:AV) (L:List Int),(st.env 1=.v (.int .i64 k)∧st.env 2=.ptr 2 0 0∧st.heap 2 0=some (.cells (aB s))∧st.env 4=.ptr 4 0 0∧st.heap 4 0=some (.cells (cI iW))∧st.env 6=.ptr 6 0 0∧st.heap 6 0=some (.cells (cI ⟨c2,X⟩))∧st.env 7=.v (.int .i64 j))∧((X=.v (.slice none 0 0)∧L=[])∨∃g,X=.own 55 g∧g<st.aP 55∧st.heap 55 g=some (.row 23 1 L.length (bD L)))∧(∀y∈L,Rg y)∧L.length=j∧j≤(ol v.B).length∧m=(ol v.B).length-j)
  (fun e st=>e=.exit 0∧∃(g:Nat) (L:List Int),(st.env 1=.v (.int .i64 k)∧st.env 2=.ptr 2 0 0∧st.heap 2 0=some (.cells (aB s))∧st.env 4=.ptr 4 0 0∧st.heap 4 0=some (.cells (cI iW))∧st.env 6=.ptr 6 0 0∧st.heap 6 0=some (.cells (cI ⟨c2,.own 55 g⟩))∧st.heap 55 g=some (.row 23 1 L.length (bD L)))∧(∀y∈L,Rg y)∧L.length=(ol v.B).length) (ol v.B).length ?step ?start ?rest
 case step =>
  rintro m st ⟨j,X,L,hI,hX,hL,hj,hjB,hm⟩
  by_cases bA:(j:Int)<(ol v.B).length
  ·have q0:(0:Int)≤j:=by omega
   have hw:IntKind.i64.wrap ((j:Int)+1)=((j+1:Nat):Int):=by rw[pR _ (by omega) (by omega)];omega
   have nL:(L.length:Int)<1000000:=by omega
   obtain⟨y,hy9⟩:∃y,IntKind.u64.wrap ((k.fdiv (2 ^ min (IntKind.u64.wrap (j:Int)).toNat IntKind.i64.bits)).tmod 50)=y:=⟨_,rfl⟩
   have ry:Rg y:=by rw[← hy9];exact jW _
   have AR:∀z∈L++[y],Rg z:=fun z hz=>(List.mem_append.1 hz).elim (hL z) fun e=>by rw[List.mem_singleton] at e;rw[e];exact ry
   have Qd:(L++[y]).length=j+1:=by rw[List.length_append,List.length_cons,List.length_nil];omega
   rcases hX with ⟨rfl,rfl⟩|⟨g,rfl,hg,hh⟩
   ·apply oN ((ol v.B).length-(j+1))
    ·simp only[Z8,seval,hI,bA,q0,h.sd.jN,xF,hy9,hw];rfl
    ·exact⟨j+1,_,[]++[y],⟨by simp only[E8,seval,hI],by simp only[E8,seval,hI],by simp only[E8,seval,hI],by simp only[E8,seval,hI],by simp only[E8,seval,hI],by simp only[E8,seval,hI],by simp only[E8,seval,hI]<;>rfl,by simp only[E8,seval]⟩,.inr ⟨_,rfl,by simp only[E8,seval]<;>omega,by simp only[E8,seval]<;>rfl⟩,AR,Qd,by omega,rfl⟩
   ·have vL:(g=st.aP 55)=False:=eq_false (by omega)
    apply oN ((ol v.B).length-(j+1))
    ·simp only[Z8,seval,hI,hh,vL,bA,q0,h.sd.jN,xF,hy9,hw,xV _ _ _ _ nL];rfl
    ·exact⟨j+1,_,L++[y],⟨by simp only[E8,seval,hI],by simp only[E8,seval,hI],by simp only[E8,seval,hI],by simp only[E8,seval,hI],by simp only[E8,seval,hI],by simp only[E8,seval,hI],by simp only[E8,seval,hI]<;>rfl,by simp only[E8,seval]⟩,.inr ⟨_,rfl,by simp only[E8,seval]<;>omega,by simp only[E8,seval]<;>rfl⟩,AR,Qd,by omega,rfl⟩
  ·rcases hX with ⟨rfl,rfl⟩|⟨g,rfl,hg,hh⟩
   ·simp at hj;omega
   ·apply oT (.exit 0)
    ·simp only[Z8,seval,hI,bA,h.sd.jN];rfl
    ·exact⟨rfl,g,L,by simp only[E8,seval,hI,hh],hL,by omega⟩
 case start=>exact⟨0,_,[],by and_intros<;>(simp only[E8,seval]<;>rfl),.inl ⟨rfl,rfl⟩,by simp,rfl,by omega,by omega⟩
 case rest =>
  rintro e st ⟨rfl,g,L,hI,hL,hlL⟩
  have nL:(L.length:Int)<1000000:=by omega
  by_cases d0:((((k).fdiv (2 ^ min 12 IntKind.i64.bits))).tmod 16)=0
  ·have AR:∀z∈L++[(1:Int)],Rg z:=fun z hz=>(List.mem_append.1 hz).elim (hL z) fun e=>by rw[List.mem_singleton] at e;rw[e];exact⟨by omega,by omega⟩
   simp only[Z8,seval,hI,bt d0,xV _ _ _ _ nL];exact⟨_,by apply eH;rfl;all_goals simp only[aI,Z8,seval,hI,bR,tD,bG,vI,dW]<;>rfl,⟨c2,_⟩,L++[1],rfl,rfl,by rw[List.length_append,List.length_cons,List.length_nil];omega,AR,rc2⟩
  by_cases d1:((((k).fdiv (2 ^ min 12 IntKind.i64.bits))).tmod 16)=1
  ·have z0:(0:Int)≤0:=by omega
   have z1:(0:Int)<(L.length:Int):=by omega
   have z2:0<L.length:=by omega
   have z3:1≤L.length:=z2
   have AR:∀z∈L.set 0 4611686018427387904,Rg z:=fun z hz=>(List.mem_or_eq_of_mem_set hz).elim (hL z) fun e=>by rw[e];exact⟨by omega,by omega⟩
   have xS:dK (bD L) 0 [.v (.int .u64 4611686018427387904)] 1=bD (L.set 0 4611686018427387904):=by
    cases L with
    | nil=>simp at z2
    | cons a L=>simp[dK,bD,sF]
   simp only[Z8,seval,hI,bf d0,bt d1,z0,z1,z3,xS,Int.toNat_zero,Nat.zero_mul];exact⟨_,by apply eH;rfl;all_goals simp only[aI,Z8,seval,hI,bR,tD,bG,vI,dW]<;>rfl,⟨c2,_⟩,L.set 0 4611686018427387904,rfl,by simp only[ov,List.length_set],by rw[List.length_set];omega,AR,rc2⟩
  simp only[Z8,seval,hI,bf d0,bf d1];exact⟨_,by apply eH;rfl;all_goals simp only[aI,Z8,seval,hI,bR,tD,bG,vI,dW]<;>rfl,⟨c2,_⟩,L,rfl,rfl,by omega,hL,rc2⟩
structure TD (t:State) (v:SV) (Q R:Option (List Request)):Prop where
 sd:SD t.store v
 Ai:t.dN=ov aA Q
 ret:t.kH=ov aA R
 nQ:((ol Q).length:Int)<900000
 nR:((ol R).length:Int)<900000
theorem TD.fl {t:State} {v:SV} {Q R:Option (List Request)} (h:TD t v Q R):Flat t.store.cFg.jN∧Flat t.store.gG.dQ∧Flat t.store.gG.gZ∧Flat t.store.dV.early∧Flat t.store.dV.bX∧Flat t.store.tree.nodes∧Flat t.store.tables∧Flat t.dN∧Flat t.kH:=by
 obtain⟨h1,h2,h3,h4,h5,h6,h7⟩:=h.sd.fl
 exact⟨h1,h2,h3,h4,h5,h6,h7,by rw[h.Ai];exact cH Q,by rw[h.ret];exact cH R⟩
theorem TD.flat {t:State} {v:SV} {Q R:Option (List Request)} (h:TD t v Q R):Flat (.agg (aF t)):=(mN t).2 h.fl
def xW (ns:List Node) (r:cK):Prop:=0≤aN ns r∧(nd ns (aN ns r)).status=0
theorem c85 {t:State} {v:SV} {Q R:Option (List Request)} (h:TD t v Q R) (r:cK):aC Tryz.prog 85 [.agg (aF t),.agg (aX r)]=some (.v (.bool (decide (xW v.ns r)))):=by
 have hr:=fY v.ns r
 rw[cL Tryz.func85 rfl aQa rfl];refine jG ?_
 by_cases g1:0≤aN v.ns r
 ·by_cases g2:(nd v.ns (aN v.ns r)).status=0
  ·simp only[Z8,seval,h.sd.tree,mT _ _ h.sd.nn,g1,hr.2,bt g2];exact⟨_,bW rfl (by simp only[E8,seval]<;>rfl) (by first|exact .v _|simp only[dW]),by simp[xW,g1,g2]⟩
  ·simp only[Z8,seval,h.sd.tree,mT _ _ h.sd.nn,g1,hr.2,bf g2];exact⟨_,bW rfl (by simp only[E8,seval]<;>rfl) (by first|exact .v _|simp only[dW]),by simp[xW,g1,g2]⟩
 ·simp only[Z8,seval,h.sd.tree,mT _ _ h.sd.nn,g1];exact⟨_,bW rfl (by simp only[E8,seval]<;>rfl) (by first|exact .v _|simp only[dW]),by simp[xW,g1]⟩
theorem k85 {t:State} {v:SV} {Q R:Option (List Request)} (h:TD t v Q R) (r:cK) (st:St) (d:Option Nat):aL (aC Tryz.prog) 85 [.agg (aF t),.agg (aX r)] st d=some { dst:=d,val:=.v (.bool (decide (xW v.ns r)))}:=kx (c85 h r) (bH h.flat (qK r)) (.v _) st d
def aF8 (t:State) (L:List Request) (r:cK) (n:Int):State:={ t with dN:=ov aA (some (L++[⟨⟨t.cT⟩,r,n,0⟩])),cT:=IntKind.u64.wrap (t.cT+1)}
theorem c86 {t:State} {v:SV} {Q R:Option (List Request)} (h:TD t v Q R) (r:cK) (n:Int):aC Tryz.prog 86 [.agg (aF t),.agg (aX r),.v (.int .i64 n)]=some (.agg (aF (aF8 t (ol Q) r n))):=by
 have iX:=h.fl
 have nq:((ol Q).length:Int)<1000000:=by have:=h.nQ;omega
 rw[cL Tryz.func86 rfl aQb rfl];refine jG ?_
 simp only[Z8,seval,h.Ai,qV _ nq,tF _ _ _ _ nq];exact⟨_,by apply eH;rfl;all_goals simp only[aI,Z8,seval,iX,bR,vO,gK,bG,cO,pF,dW]<;>rfl,rfl⟩
noncomputable def jI (ns:List Node) (l:List Request):List Request:=l.filter fun r=>decide (0≤aN ns r.block)
theorem c91 {t:State} {v:SV} {Q R:Option (List Request)} (h:TD t v Q R) (o:Option (List Request)) (hn:((ol o).length:Int)<1000000):aC Tryz.prog 91 [.agg (aF t),ov aA o]=some (Nn 63 35 aA (jI v.ns (ol o))):=by
 rw[cL Tryz.func91 rfl aQc (by cases o<;>rfl)]
 refine jG ?_
 simp only[Z8,seval];refine cM (fun m st=>∃k:Nat,(st.env 2=.ptr 2 0 0∧st.heap 2 0=some (.cells (aF t))∧st.env 1=ov aA o∧st.env 6=.v (.int .i64 k))∧(((((ol o).take k).filter (fun r=>decide (0≤aN v.ns r.block)))=[]∧st.env 5=.v (.slice none 0 0))∨((((ol o).take k).filter (fun r=>decide (0≤aN v.ns r.block)))≠[]∧∃g,st.env 5=.own 29 g∧g<st.aP 29∧st.heap 29 g=some (.row 63 35 (((ol o).take k).filter (fun r=>decide (0≤aN v.ns r.block))).length (aA (((ol o).take k).filter (fun r=>decide (0≤aN v.ns r.block)))))))∧k≤(ol o).length∧m=(ol o).length-k)
  (fun e st=>e=.exit 0∧(((((ol o).take (ol o).length).filter (fun r=>decide (0≤aN v.ns r.block)))=[]∧st.env 5=.v (.slice none 0 0))∨((((ol o).take (ol o).length).filter (fun r=>decide (0≤aN v.ns r.block)))≠[]∧∃g,st.env 5=.own 29 g∧g<st.aP 29∧st.heap 29 g=some (.row 63 35 (((ol o).take (ol o).length).filter (fun r=>decide (0≤aN v.ns r.block))).length (aA (((ol o).take (ol o).length).filter (fun r=>decide (0≤aN v.ns r.block)))))))∧st.env 2=.ptr 2 0 0∧st.heap 2 0=some (.cells (aF t))∧st.env 1=ov aA o) ((ol o).length) ?step ?start ?rest
 case step =>
  rintro m st ⟨k,hI,h5,hk,hm⟩
  have Gl:(((((ol o).take k).filter (fun r=>decide (0≤aN v.ns r.block))).length:Nat):Int)<1000000:=by have:=List.length_filter_le (fun r=>decide (0≤aN v.ns r.block)) ((ol o).take k);have h2:=List.length_take_le' k (ol o);omega
  by_cases bA:(k:Int)<(ol o).length
  ·have q0:(0:Int)≤k:=by omega
   have hw:IntKind.i64.wrap ((k:Int)+1)=((k+1:Nat):Int):=by rw[pR _ (by omega) (by omega)];omega
   have hs:=yJ bN (fun r=>decide (0≤aN v.ns r.block)) (ol o) k (by omega)
   by_cases hh:0≤aN v.ns (gx bN (ol o) (k:Int)).block
   ·rw[if_pos (decide_eq_true hh)] at hs;rcases h5 with ⟨hy,h5⟩|⟨hy,g,h5⟩
    ·rw[hy] at hs;apply oN ((ol o).length-(k+1))
     ·simp only[Z8,seval,hI,h5,bA,hw,q0,h.sd.tree,mT _ _ h.sd.nn,hh];rfl
     ·exact⟨k+1,by simp only[E8,seval,hI],.inr ⟨by rw[hs];simp,_,by simp only[E8,seval]<;>rfl,(by simp only[E8,seval]<;>omega),(by rw[hs];simp only[E8,seval]<;>rfl)⟩,by omega,rfl⟩
    ·apply oN ((ol o).length-(k+1))
     ·simp only[Z8,seval,hI,h5,Gl,bA,hw,q0,h.sd.tree,mT _ _ h.sd.nn,hh];rfl
     ·exact⟨k+1,by simp only[E8,seval,hI],.inr ⟨by rw[hs];simp,_,by simp only[E8,seval]<;>rfl,(by simp only[E8,seval]<;>omega),(by rw[hs];simp only[E8,seval]<;>rfl)⟩,by omega,rfl⟩
   ·rw[if_neg (by simpa using hh),List.append_nil] at hs
    apply oN ((ol o).length-(k+1))
    ·simp only[Z8,seval,hI,bA,hw,q0,h.sd.tree,mT _ _ h.sd.nn,hh];rfl
    ·exact⟨k+1,by simp only[E8,seval,hI],by rw[hs];simpa only[E8,seval] using h5,by omega,rfl⟩
  ·have Eh:k=(ol o).length:=by omega
   rw[Eh] at h5;apply oT (.exit 0)
   ·simp only[Z8,seval,hI,bA];rfl
   ·exact⟨rfl,by simpa only[E8,seval] using h5,by simp only[E8,seval,hI]⟩
 case start=>exact⟨0,by simp only[E8,seval]<;>rfl,.inl ⟨rfl,by simp only[E8,seval]⟩,by omega,by omega⟩
 case rest =>
  rintro e st ⟨rfl,⟨hy,h5⟩|⟨hy,g,h5,hg,Ae⟩,hI⟩
  ·rw[List.take_length] at hy;rw[show Nn 63 35 aA (jI v.ns (ol o))=.v (.slice none 0 0) from if_pos hy];simp only[Z8,seval,h5];exact⟨_,bW rfl (by simp only[E8,seval,h5]<;>rfl) (by first|exact .v _|simp only[dW,h5]),rfl⟩
  ·rw[List.take_length] at hy Ae;rw[show Nn 63 35 aA (jI v.ns (ol o))=.uniq 63 35 (jI v.ns (ol o)).length (aA (jI v.ns (ol o))) from if_neg hy];simp only[Z8,seval,h5];exact⟨_,sP rfl (by simp only[E8,seval,h5]<;>rfl) (by simp only[E8,seval,Ae]<;>rfl) (dX _),rfl⟩
noncomputable def GL (t:State) (v:SV) (Q R:Option (List Request)):State:={ t with dN:=ov aA (nz (jI v.ns (ol Q))),kH:=ov aA (nz (jI v.ns (ol R)))}
theorem c36 {t:State} {v:SV} {Q R:Option (List Request)} (h:TD t v Q R):aC Tryz.prog 36 [.agg (aF t)]=some (.agg (aF (GL t v Q R))):=by
 have iX:=h.fl
 have hf:=h.flat
 have cQ:=c91 h Q (by have:=h.nQ;omega)
 have cR:=c91 h R (by have:=h.nR;omega)
 rw[cL Tryz.func36 rfl aQe rfl];refine jG ?_
 by_cases e1:jI v.ns (ol Q)=[]
 ·rw[show Nn 63 35 aA (jI v.ns (ol Q))=.v (.slice none 0 0) from if_pos e1] at cQ;have z1:nz (jI v.ns (ol Q))=none:=if_pos e1
  have kQ:=kx cQ (bH hf (cH Q)) (.v _)
  by_cases e2:jI v.ns (ol R)=[]
  ·rw[show Nn 63 35 aA (jI v.ns (ol R))=.v (.slice none 0 0) from if_pos e2] at cR;have z2:nz (jI v.ns (ol R))=none:=if_pos e2
   have kR:=kx cR (bH hf (cH R)) (.v _)
   simp only[Z8,seval,h.Ai,h.ret,kQ,kR];exact⟨_,fL rfl (by simp only[E8,seval,iX]<;>rfl) (by simp only[Z8,seval,iX]<;>rfl) (by simp only[dW,and_self,iX]),by unfold GL;rw[z1,z2];rfl⟩
  ·rw[show Nn 63 35 aA (jI v.ns (ol R))=.uniq 63 35 (jI v.ns (ol R)).length (aA (jI v.ns (ol R))) from if_neg e2] at cR;have z2:nz (jI v.ns (ol R))=some (jI v.ns (ol R)):=if_neg e2
   have kR:∀(st:St) (d:Nat),aL (aC Tryz.prog) 91 [.agg (aF t),ov aA R] st (some d)=_:=fun st d=>jF (st:=st) (d:=d) (bH hf (cH R)) cR
   simp only[Z8,seval,h.Ai,h.ret,kQ,kR];exact⟨_,by apply eH;rfl;all_goals simp only[aI,Z8,seval,iX,bR,vO,gK,bG,cO,pF,dW]<;>rfl,by unfold GL;rw[z1,z2];rfl⟩
 ·rw[show Nn 63 35 aA (jI v.ns (ol Q))=.uniq 63 35 (jI v.ns (ol Q)).length (aA (jI v.ns (ol Q))) from if_neg e1] at cQ;have z1:nz (jI v.ns (ol Q))=some (jI v.ns (ol Q)):=if_neg e1
  have kQ:∀(st:St) (d:Nat),aL (aC Tryz.prog) 91 [.agg (aF t),ov aA Q] st (some d)=_:=fun st d=>jF (st:=st) (d:=d) (bH hf (cH Q)) cQ
  by_cases e2:jI v.ns (ol R)=[]
  ·rw[show Nn 63 35 aA (jI v.ns (ol R))=.v (.slice none 0 0) from if_pos e2] at cR;have z2:nz (jI v.ns (ol R))=none:=if_pos e2
   have kR:=kx cR (bH hf (cH R)) (.v _)
   simp only[Z8,seval,h.Ai,h.ret,kQ,kR];exact⟨_,by apply eH;rfl;all_goals simp only[aI,Z8,seval,iX,bR,vO,gK,bG,cO,pF,dW]<;>rfl,by unfold GL;rw[z1,z2];rfl⟩
  ·rw[show Nn 63 35 aA (jI v.ns (ol R))=.uniq 63 35 (jI v.ns (ol R)).length (aA (jI v.ns (ol R))) from if_neg e2] at cR;have z2:nz (jI v.ns (ol R))=some (jI v.ns (ol R)):=if_neg e2
   have kR:∀(st:St) (d:Nat),aL (aC Tryz.prog) 91 [.agg (aF t),ov aA R] st (some d)=_:=fun st d=>jF (st:=st) (d:=d) (bH hf (cH R)) cR
   simp only[Z8,seval,h.Ai,h.ret,kQ,kR];exact⟨_,by apply eH;rfl;all_goals simp only[aI,Z8,seval,iX,bR,vO,gK,bG,cO,pF,dW]<;>rfl,by unfold GL;rw[z1,z2];rfl⟩
theorem TD.drp {t:State} {v:SV} {Q R:Option (List Request)} (h:TD t v Q R):TD (GL t v Q R) v (nz (jI v.ns (ol Q))) (nz (jI v.ns (ol R))):=by
 have h1:=List.length_filter_le (fun r:Request=>decide (0≤aN v.ns r.block)) (ol Q)
 have h2:=List.length_filter_le (fun r:Request=>decide (0≤aN v.ns r.block)) (ol R)
 refine⟨h.sd,rfl,rfl, ?_, ?_⟩
 ·rw[mU];have:=h.nQ;unfold jI;omega
 ·rw[mU];have:=h.nR;unfold jI;omega
noncomputable def RZ (ns:List Node) (p:Option (List Request) × Int) (r:cK):Option (List Request) × Int:=if xW ns r then (some (ol p.1++[⟨⟨p.2⟩,r,0,0⟩]),IntKind.u64.wrap (p.2+1)) else p
noncomputable def Li (ns:List Node) (p:Option (List Request) × Int) (l:List cK):Option (List Request) × Int:=l.foldl (RZ ns) p
theorem Q3 (ns:List Node) (a:Option (List Request) × Int) (l:List cK) (k:Nat) (h:k<l.length):Li ns a (l.take (k+1))=RZ ns (Li ns a (l.take k)) (gx dL l k):=by
 unfold Li;rw[List.take_succ_eq_append_getElem h,List.foldl_append];simp[gx,h]
def GM (t:State) (p:Option (List Request) × Int):State:={ t with dN:=ov aA p.1,cT:=p.2 }
theorem TD.GM {t:State} {v:SV} {Q R:Option (List Request)} (h:TD t v Q R) (p:Option (List Request) × Int) (hn:((ol p.1).length:Int)<900000):TD (GM t p) v p.1 R:=⟨h.sd,rfl,h.ret,hn,h.nR⟩
theorem aF9 {t:State} {v:SV} {Q R:Option (List Request)} (h:TD t v Q R):Tryz.GM t (Q,t.cT)=t:=by unfold Tryz.GM;simp only;rw[← h.Ai]
theorem aB7 (ns:List Node) (p:Option (List Request) × Int) (r:cK):(ol (RZ ns p r).1).length≤(ol p.1).length+1:=by
 unfold RZ;split
 ·show (ol p.1++[_]).length≤_;rw[List.length_append,List.length_cons,List.length_nil];omega
 ·omega
theorem YR (ns:List Node) (p:Option (List Request) × Int) (l:List cK):(ol (Li ns p l).1).length≤(ol p.1).length+l.length:=by
 induction l generalizing p with
 | nil=>exact Nat.le_refl _
 | cons r l ih=>have h1:=ih (RZ ns p r);have h2:=aB7 ns p r;rw[List.length_cons];show (ol (Li ns (RZ ns p r) l).1).length≤_;omega
theorem c32 {t:State} {v:SV} {Q R:Option (List Request)} (h:TD t v Q R) (L:Option (List cK)) (hn:((ol Q).length:Int)+(ol L).length<800000):aC Tryz.prog 32 [.agg (aF t),ov gM L]=some (.agg (aF (Tryz.GM t (Li v.ns (Q,t.cT) (ol L))))):=by
 have hT:∀k:Nat,k≤(ol L).length→TD (Tryz.GM t (Li v.ns (Q,t.cT) ((ol L).take k))) v (Li v.ns (Q,t.cT) ((ol L).take k)).1 R:=fun k hk=>h.GM _ (by
  have:=YR v.ns (Q,t.cT) ((ol L).take k);rw[List.length_take] at this;have e:ol (Q,t.cT).1=ol Q:=rfl;rw[e] at this;omega)
 rw[cL Tryz.func32 rfl aQf (by cases L<;>rfl)]
 refine jG ?_
 simp only[Z8,seval];refine cM (fun m st=>∃k:Nat,(st.env 1=ov gM L∧st.env 2=.ptr 2 0 0∧st.heap 2 0=some (.cells (aF (Tryz.GM t (Li v.ns (Q,t.cT) ((ol L).take k)))))∧st.env 4=.ptr 4 0 0∧st.heap 4 0=some (.cells (aF jR))∧st.env 5=.v (.int .i64 k))∧k≤(ol L).length∧m=(ol L).length-k)
  (fun e st=>e=.exit 0∧(st.env 2=.ptr 2 0 0∧st.heap 2 0=some (.cells (aF (Tryz.GM t (Li v.ns (Q,t.cT) (ol L)))))∧st.env 4=.ptr 4 0 0∧st.heap 4 0=some (.cells (aF jR)))) (ol L).length ?step ?start ?rest
 case step =>
  rintro m st ⟨k,hI,hk,hm⟩
  by_cases bA:(k:Int)<(ol L).length
  ·have q0:(0:Int)≤k:=by omega
   have hw:IntKind.i64.wrap ((k:Int)+1)=((k+1:Nat):Int):=by rw[pR _ (by omega) (by omega)];omega
   have hs:=Q3 v.ns (Q,t.cT) (ol L) k (by omega)
   have hTk:=hT k hk
   have A7:=k85 hTk (gx dL (ol L) (k:Int))
   by_cases g1:xW v.ns (gx dL (ol L) (k:Int))
   ·have UE:=hT (k+1) (by omega)
    have k86':=kx (c86 hTk (gx dL (ol L) (k:Int)) 0) (nD hTk.flat (qK _) (.v _)) (by
     have:aF8 (Tryz.GM t (Li v.ns (Q,t.cT) ((ol L).take k))) (ol (Li v.ns (Q,t.cT) ((ol L).take k)).1) (gx dL (ol L) (k:Int)) 0=Tryz.GM t (Li v.ns (Q,t.cT) ((ol L).take (k+1))):=by rw[hs,RZ,if_pos g1];rfl
     rw[this];exact UE.flat)
    have he:aF8 (Tryz.GM t (Li v.ns (Q,t.cT) ((ol L).take k))) (ol (Li v.ns (Q,t.cT) ((ol L).take k)).1) (gx dL (ol L) (k:Int)) 0=Tryz.GM t (Li v.ns (Q,t.cT) ((ol L).take (k+1))):=by rw[hs,RZ,if_pos g1];rfl
    rw[he] at k86'
    apply oN ((ol L).length-(k+1))
    ·simp only[Z8,seval,hI,bA,q0,A7,g1,k86',hw];rfl
    ·exact⟨k+1,by simp only[E8,seval,hI],by omega,rfl⟩
   ·rw[RZ,if_neg g1] at hs;apply oN ((ol L).length-(k+1))
    ·simp only[Z8,seval,hI,bA,q0,A7,g1,hw];rfl
    ·exact⟨k+1,by simp only[E8,seval,hI,hs],by omega,rfl⟩
  ·have Eh:k=(ol L).length:=by omega
   rw[Eh,List.take_length] at hI;apply oT (.exit 0)
   ·simp only[Z8,seval,hI,Int.lt_irrefl];rfl
   ·exact⟨rfl,by simp only[E8,seval,hI]⟩
 case start=>exact⟨0,by rw[List.take_zero,show Li v.ns (Q,t.cT) []=(Q,t.cT) from rfl,aF9 h];simp only[E8,seval]<;>rfl,by omega,by omega⟩
 case rest =>
  rintro e st ⟨rfl,hI⟩
  have UE:=(hT (ol L).length (Nat.le_refl _)).fl
  rw[List.take_length] at UE;simp only[Z8,seval,hI];exact⟨_,fL rfl (by simp only[E8,seval,hI,UE]<;>rfl) (by simp only[Z8,seval,hI,UE]<;>rfl) (by simp only[dW,and_self,hI,UE]),rfl⟩
noncomputable def MP (b:Int):Nat→Int→Int
 | 0,d=>d
 | n+1,d=>if IntKind.u64.wrap (b-d)≤d then b else MP b n (IntKind.u64.wrap (2 * d))
noncomputable def UF (n b:Int):Int:=if b=0 then 0 else MP b (n-1).toNat 1
theorem aQh (n b:Int) (hn:n≤9223372036854775807):aC Tryz.prog 143 [.v (.int .i64 n),.v (.int .u64 b)]=some (.v (.int .u64 (UF n b))):=by
 rw[cL Tryz.func143 rfl aLC rfl];refine jG ?_
 by_cases g0:b=0
 ·simp only[Z8,seval,bt g0];exact⟨_,bW rfl (by simp only[E8,seval]<;>rfl) (by first|exact .v _|simp only[dW]),by rw[UF,if_pos g0]⟩
 simp only[Z8,seval,bf g0];refine cM (fun m st=>∃(k:Nat) (d i:Int),(st.env 0=.v (.int .i64 n)∧st.env 1=.v (.int .u64 b)∧st.env 5=.v (.int .u64 d)∧st.env 6=.v (.int .i64 i))∧i=k+1∧MP b ((n-1).toNat-k) d=MP b (n-1).toNat 1∧k≤(n-1).toNat∧m=(n-1).toNat-k)
  (fun e st=>(e=.ret∧st.env 4=.v (.int .u64 (MP b (n-1).toNat 1)))∨(e=.exit 0∧st.env 5=.v (.int .u64 (MP b (n-1).toNat 1)))) (n-1).toNat ?step ?start ?rest
 case step =>
  rintro m st ⟨k,d,i,hI,hi,hd,hk,hm⟩
  by_cases bA:i<n
  ·have hw:IntKind.i64.wrap (i+1)=i+1:=pR _ (by omega) (by omega)
   have e1:(n-1).toNat-k=((n-1).toNat-(k+1))+1:=by omega
   rw[e1,MP] at hd;by_cases g1:IntKind.u64.wrap (b-d)≤d
   ·rw[if_pos g1] at hd;apply oT (.ret)
    ·simp only[Z8,seval,hI,bA,g1];rfl
    ·exact .inl ⟨rfl,by rw[← hd];simp only[E8,seval]⟩
   ·rw[if_neg g1] at hd;apply oN ((n-1).toNat-(k+1))
    ·simp only[Z8,seval,hI,bA,g1,hw];rfl
    ·exact⟨k+1,_,i+1,by and_intros<;>(simp only[E8,seval,hI]<;>rfl),by omega,hd,by omega,rfl⟩
  ·have e1:(n-1).toNat-k=0:=by omega
   rw[e1,MP] at hd;apply oT (.exit 0)
   ·simp only[Z8,seval,hI,bA];rfl
   ·exact .inr ⟨rfl,by rw[← hd];simp only[E8,seval,hI]⟩
 case start=>exact⟨0,1,1,by and_intros<;>(simp only[E8,seval]<;>rfl),rfl,rfl,by omega,by omega⟩
 case rest =>
  rintro e st (⟨rfl,h⟩|⟨rfl,h⟩)
  ·simp only[Z8,seval,h];exact⟨_,bW rfl (by simp only[E8,seval,h]<;>rfl) (by first|exact .v _|simp only[dW,h]),by rw[UF,if_neg g0]⟩
  ·simp only[Z8,seval,h];exact⟨_,bW rfl (by simp only[E8,seval,h]<;>rfl) (by first|exact .v _|simp only[dW,h]),by rw[UF,if_neg g0]⟩
theorem aQi (n b:Int) (hn:n≤9223372036854775807) (st:St) (d:Option Nat):aL (aC Tryz.prog) 143 [.v (.int .i64 n),.v (.int .u64 b)] st d=some { dst:=d,val:=.v (.int .u64 (UF n b))}:=kx (aQh n b hn) (bH (.v _) (.v _)) (.v _) st d
end Go.Ab.Tryz
