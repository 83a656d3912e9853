/-
  Part 13 of the proof: an evaluator of programs, its soundness, and what functions of this program compute.
-/
import Derived.Test.YtmcjkemalibacaaGreatK12
import Derived.Test.YtmcjkemalibacaaGreatK11
import Derived.Test.YtmcjkemalibacaaGreatK10
set_option linter.all false
set_option maxRecDepth 20000
set_option maxHeartbeats 40000000
namespace Go.Ab.Tryz
open Classical Go.Proofs Go.Ab
theorem aOx (ns:List Node) (hu:gU ns) (hr:(nd ns 0).up=-1) (hn:(ns.length:Int)<1000000) (w:List Int) (hw:w.length=ns.length) (b:List Bool) (hb:b.length=ns.length) (i:Int) :
 ∃r,aD Tryz.prog 225 [.agg (cP ⟨ns⟩),.sl w.length (bD w),.sl b.length (mG b),.v (.int .i64 i)]=some r∧∃k:Int,r=.v (.int .i64 k)∧(k=-1∨(i<k∧0≤k∧k<ns.length)):=by
 rw[cL Tryz.func225 rfl aJP rfl];by_cases hc:vN ns i=[]
 ·have kc:=fun st d=>aDy ns hu hr hn i hc st d
  simp only[Z8,seval,kc];refine cM (fun m st=>st.env 9=.v (.int .i64 (-1))∧st.env 10=.v (.slice none 0 0)∧st.env 11=.v (.int .i64 0)∧m=0) (fun e st=>e=.exit 0∧st.env 9=.v (.int .i64 (-1))) 0 ?step ?start ?rest
  case step =>
   rintro m st ⟨h9,h10,h11,_⟩
   apply oT (.exit 0)
   ·simp only[Z8,seval,h9,h10,h11,Int.lt_irrefl];rfl
   ·exact⟨rfl,by simp only[E8,seval,h9]⟩
  case start=>exact⟨by simp only[E8,seval]<;>rfl,by simp only[E8,seval]<;>rfl,by simp only[E8,seval]<;>rfl,rfl⟩
  case rest =>
   rintro e st ⟨rfl,h9⟩
   simp only[Z8,seval,h9];exact⟨_,bX rfl (by simp only[E8,seval,h9]<;>rfl) (by first|exact .v _|simp only[dU,h9]),-1,rfl,.inl rfl⟩
 have kc:=fun st d=>aIw ns hu hr hn i hc st d
 have hgt:∀x∈vN ns i,i<x∧0≤x∧x<ns.length:=fun x hx=>FF hu hr hx
 have hin:((vN ns i).length:Int)<1000000:=by
  have h1:(vN ns i).length≤ns.length:=by
   unfold vN;split
   ·simp
   ·exact Uc ns i ns.length
  omega
 obtain⟨l,el⟩:∃l,vN ns i=l:=⟨_,rfl⟩
 rw[el] at kc hgt hin;simp only[Z8,seval,kc];refine cM (fun m st=>∃(k:Nat) (wM:Int),(st.env 4=.ptr 4 0 0∧st.heap 4 0=some (.cells (cP ⟨ns⟩))∧st.env 1=.sl w.length (bD w)∧st.env 2=.sl b.length (mG b)∧st.env 10=.own 15 0∧st.heap 15 0=some (.row 3 1 l.length (aJ l))∧st.env 9=.v (.int .i64 wM)∧st.env 11=.v (.int .i64 k))∧(wM=-1∨(i<wM∧0≤wM∧wM<ns.length))∧k≤l.length∧m=l.length-k)
  (fun e st=>e=.exit 0∧∃wM:Int,st.env 9=.v (.int .i64 wM)∧(wM=-1∨(i<wM∧0≤wM∧wM<ns.length))) l.length ?step ?start ?rest
 case step =>
  rintro m st ⟨k,wM,hI,DF,hk,hm⟩
  by_cases bA:(k:Int)<l.length
  case neg =>
   apply oT (.exit 0)
   ·simp only[Z8,seval,hI,bA];rfl
   ·exact⟨rfl,wM,by simp only[E8,seval,hI],DF⟩
  have q0:(0:Int)≤k:=by omega
  have hwr:IntKind.i64.wrap ((k:Int)+1)=((k+1:Nat):Int):=by rw[pV _ (by omega) (by omega)];omega
  have gi:=oR q0 bA
  obtain⟨c,ec⟩:∃c,it l (k:Int)=c:=⟨_,rfl⟩
  have hc:=hgt c (by rw[← ec];obtain⟨h1,h2⟩:=wI q0 bA;rw[h2];exact List.getElem_mem h1)
  obtain⟨c0,c1,c2⟩:=hc
  have c3:c<(w.length:Int):=by rw[hw];exact c2
  have c4:c<(b.length:Int):=by rw[hb];exact c2
  cases g1:gx false b c
  ·apply oN (l.length-(k+1))
   ·simp only[Z8,seval,hI,bA,q0,gi,ec,c1,c3,c4,g1,hwr,qH,qI];rfl
   ·exact⟨k+1,wM,by simp only[E8,seval,hI],DF,by omega,rfl⟩
  by_cases g2:wM<0
  ·apply oN (l.length-(k+1))
   ·simp only[Z8,seval,hI,bA,q0,gi,ec,c1,c3,c4,g1,g2,hwr,qH,qI];rfl
   ·exact⟨k+1,c,by simp only[E8,seval,hI],.inr ⟨c0,c1,c2⟩,by omega,rfl⟩
  have b1:0≤wM:=by omega
  have b2:wM<ns.length:=by omega
  have b3:wM<(w.length:Int):=by rw[hw];exact b2
  by_cases g3:gx (0:Int) w wM<gx (0:Int) w c
  ·apply oN (l.length-(k+1))
   ·simp only[Z8,seval,hI,bA,q0,gi,ec,c1,c3,c4,g1,g2,b1,b3,g3,hwr,qH,qI];rfl
   ·exact⟨k+1,c,by simp only[E8,seval,hI],.inr ⟨c0,c1,c2⟩,by omega,rfl⟩
  by_cases g4:gx (0:Int) w c=gx (0:Int) w wM
  case neg =>
   apply oN (l.length-(k+1))
   ·simp only[Z8,seval,hI,bA,q0,gi,ec,c1,c3,c4,g1,g2,b1,b3,g3,bf g4,hwr,qH,qI];rfl
   ·exact⟨k+1,wM,by simp only[E8,seval,hI],DF,by omega,rfl⟩
  by_cases g5:0<aIV (nd ns c).block.root (nd ns wM).block.root
  ·apply oN (l.length-(k+1))
   ·simp only[Z8,seval,hI,bA,q0,gi,ec,c1,c2,c3,c4,g1,g2,b1,b2,b3,g3,bt g4,aEK,g5,hwr,qH,qI];rfl
   ·exact⟨k+1,c,by simp only[E8,seval,hI],.inr ⟨c0,c1,c2⟩,by omega,rfl⟩
  ·apply oN (l.length-(k+1))
   ·simp only[Z8,seval,hI,bA,q0,gi,ec,c1,c2,c3,c4,g1,g2,b1,b2,b3,g3,bt g4,aEK,g5,hwr,qH,qI];rfl
   ·exact⟨k+1,wM,by simp only[E8,seval,hI],DF,by omega,rfl⟩
 case start=>exact⟨0,-1,by simp only[E8,seval]<;>rfl,.inl rfl,by omega,by omega⟩
 case rest =>
  rintro e st ⟨rfl,wM,h9,DF⟩
  simp only[Z8,seval,h9];exact⟨_,bX rfl (by simp only[E8,seval,h9]<;>rfl) (by first|exact .v _|simp only[dU,h9]),wM,rfl,DF⟩
theorem aOy {s:aN} {v:SV} {q:Int} (h:GI s v q):∃r,aD Tryz.prog 208 [.agg (aB s)]=some r∧∃k:Int,r=.v (.int .i64 k)∧0≤k∧k<v.ns.length:=by
 have hf:=h.sd.flat
 have hn:=h.sd.nn
 obtain⟨r1,e1,w,rfl,hw⟩:=aOm h
 obtain⟨r2,e2,b,rfl,hb⟩:=aOq h
 have k223:∀(st:St) (d:Nat),aP (aD Tryz.prog) 223 [.agg (aB s)] st (some d)=_:=fun st d=>iW (st:=st) (d:=d) (cO hf) e1
 have k224:∀(st:St) (d:Nat),aP (aD Tryz.prog) 224 [.agg (aB s)] st (some d)=_:=fun st d=>iW (st:=st) (d:=d) (cO hf) e2
 have hB:∀i:Int,∃k:Int,aD Tryz.prog 225 [.agg (cP ⟨v.ns⟩),.sl w.length (bD w),.sl b.length (mG b),.v (.int .i64 i)]=some (.v (.int .i64 k))∧(k=-1∨(i<k∧0≤k∧k<v.ns.length)):=fun i=>by
  obtain⟨r,hr,k,rfl,hk⟩:=aOx v.ns h.up h.KC hn w hw b hb i
  exact⟨k,hr,hk⟩
 have kB:∀(i:Int) (k:Int),aD Tryz.prog 225 [.agg (cP ⟨v.ns⟩),.sl w.length (bD w),.sl b.length (mG b),.v (.int .i64 i)]=some (.v (.int .i64 k))→∀(st:St) (g1 g2:Nat) (d:Option Nat),st.heap 8 g1=some (.row 23 1 w.length (bD w))→st.heap 10 g2=some (.row 4 1 b.length (mG b)) →
  aP (aD Tryz.prog) 225 [.agg (cP ⟨v.ns⟩),.own 8 g1,.own 10 g2,.v (.int .i64 i)] st d=some { dst:=d,val:=.v (.int .i64 k)}:=by
  intro i k hk st g1 g2 d hh1 wF;rw[lC,List.map_cons,List.map_cons,List.map_cons,List.map_cons,List.map_nil,Ii,uT,hh1,uS,uT,wF,XG,Pw,bK,bK,bK,bK,gC];exact Vl hk
 rw[cL Tryz.func208 rfl aJS rfl];simp only[Z8,seval,k223,k224,h.sd.tree,mA _ _ hn];refine cM (fun m st=>∃i:Int,(st.env 1=.ptr 1 0 0∧st.heap 1 0=some (.cells (aB s))∧st.env 3=.own 8 0∧st.heap 8 0=some (.row 23 1 w.length (bD w))∧st.env 4=.own 10 0∧st.heap 10 0=some (.row 4 1 b.length (mG b))∧st.env 5=.v (.int .i64 i))∧0≤i∧i<v.ns.length∧m=v.ns.length-i.toNat)
  (fun e st=>e=.ret∧∃i:Int,st.env 2=.v (.int .i64 i)∧0≤i∧i<v.ns.length) (v.ns.length-(aM v.ns s.bH.gP.root).toNat) ?step ?start ?rest
 case step =>
  rintro m st ⟨i,hI,i0,i1,hm⟩
  obtain⟨k,hk,hkk⟩:=hB i
  have kb:=kB i k hk
  by_cases bA:k<0
  ·apply oT (.ret)
   ·simp only[Z8,seval,hI,h.sd.tree,kb,bA];rfl
   ·exact⟨rfl,i,by simp only[E8,seval],i0,i1⟩
  ·apply oN (v.ns.length-k.toNat)
   ·simp only[Z8,seval,hI,h.sd.tree,kb,bA];rfl
   ·exact⟨k,by simp only[E8,seval,hI],by omega,by omega,rfl⟩
 case start=>exact⟨_,by simp only[E8,seval]<;>rfl,h.gP,(fB _ _).2,rfl⟩
 case rest =>
  rintro e st ⟨rfl,i,h2,i0,i1⟩
  simp only[Z8,seval];exact⟨_,bX rfl (by simp only[E8,seval,h2]<;>rfl) (by first|exact .v _|simp only[dU,h2]),i,rfl,i0,i1⟩
theorem SJ (r:Command):Flat (.agg (dZ r))=True:=eq_true (.agg _ (kH r))
theorem aOz {s:aN} {v:SV} {q:Int} (h:GI s v q):∃r,aD Tryz.prog 199 [.agg (aB s)]=some r∧∃c:Command,r=.agg (dZ c):=by
 have hf:=h.sd.flat
 obtain⟨r1,e1,k,rfl,k0,k1⟩:=aOy h
 have k208:=kx e1 (cO hf) (.v _)
 obtain⟨r2,e2,r,rfl⟩:=aOc h.sd
 have k209:=kx e2 (cO hf) (pZ r)
 rw[cL Tryz.func199 rfl aJT rfl];simp only[Z8,seval,k208,k209,h.sd.tree,k0,k1];exact⟨_,eU rfl (by simp only[E8,seval,SJ]<;>rfl) (by simp only[Z8,seval,SJ]<;>rfl) (by simp only[dU,and_self,SJ]),_,rfl⟩
theorem aJU (t:State) (hf:Flat (.agg (aF t))) {v:SV} {q:Int} (h:GI t.store v q):∃r,aD Tryz.prog 181 [.agg (aF t)]=some r∧∃(b:Bool) (c:Command) (y:AV),r=.eB [.agg (aF { t with yL:=b,last:=c }),y]∧Flat y:=by
 have WJ:=h.sd.flat
 have lO:=(qD t).1 hf
 obtain⟨r1,e1,c,rfl⟩:=aOz h
 have aE1:=kx e1 (cO WJ) (.agg _ (kH c))
 have hfc:∀x∈dZ c,Flat x:=kH c
 have ex:iX (some (.row 56 96 1 (dZ c)))=some (.sl 1 (dZ c)):=by
  unfold iX;simp only[if_pos hfc]
 rw[cG Tryz.func181 rfl aJV (by kernel_rfl) rfl]
 have l7:Flat (.agg (aF { t with yL:=true,last:=c })):=(qD _).2 lO
 cases g1:t.yL
 ·simp only[ZG,seval,Bool.false_and,Prod.mk.injEq,K3,aE1,g1];exact⟨_,by apply dM;rfl;all_goals simp only[aI,bS,Z8,seval,l7,ex]<;>rfl,true,c,_,rfl,.sl _ _ hfc⟩
 ·by_cases g2:t.last=c
  ·simp only[ZG,seval,Bool.false_and,Prod.mk.injEq,K3,aE1,g1,g2];exact⟨_,by apply dM;rfl;all_goals simp only[aI,bS,Z8,seval,hf]<;>rfl,t.yL,t.last,_,rfl,.v _⟩
  ·simp only[ZG,seval,Bool.false_and,Prod.mk.injEq,K3,aE1,g1,g2];exact⟨_,by apply dM;rfl;all_goals simp only[aI,bS,Z8,seval,l7,ex]<;>rfl,true,c,_,rfl,.sl _ _ hfc⟩
theorem wrap_u64 (x:Int) (h1:0≤x) (h2:x<18446744073709551616):IntKind.u64.wrap x=x:=by
 unfold IntKind.wrap;simp[IntKind.signed,IntKind.bits]
 omega
theorem aJW (o:Option (List Int)) (hn:((ol o).length:Int)≤1000) (hb:∀x∈ol o,0≤x∧x≤1000):∃a:Int,aD Tryz.prog 175 [ov bD o]=some (.eB [.v (.int .u64 a),.v (.int .i64 0)])∧0≤a∧a≤1000000:=by
 suffices h:∃r,aD Tryz.prog 175 [ov bD o]=some r∧∃a:Int,r=.eB [.v (.int .u64 a),.v (.int .i64 0)]∧0≤a∧a≤1000000 by
  obtain⟨r,h,a,rfl,h1⟩:=h;exact⟨a,h,h1⟩
 have add:∀(a:Int) (k:Nat),0≤a∧a≤1000 * k→k<(ol o).length→AA a (gx (0:Int) (ol o) (k:Int))=(a+gx (0:Int) (ol o) (k:Int),0)∧0≤a+gx (0:Int) (ol o) (k:Int)∧a+gx (0:Int) (ol o) (k:Int)≤1000 * ((k+1:Nat):Int):=by
  intro a k ha hk;have hx:=hb _ (yI (z:=(0:Int)) (show (0:Int)≤k by omega) (show (k:Int)<(ol o).length by omega))
  obtain⟨x,ex⟩:∃x,gx (0:Int) (ol o) (k:Int)=x:=⟨_,rfl⟩
  rw[ex] at hx ⊢;have w1:IntKind.u64.wrap (18446744073709551615-x)=18446744073709551615-x:=wrap_u64 _ (by omega) (by omega)
  have w2:IntKind.u64.wrap (a+x)=a+x:=wrap_u64 _ (by omega) (by omega)
  unfold AA;rw[w1,w2,if_neg (by omega)]
  exact⟨rfl,by omega,by omega⟩
 rw[cL Tryz.func175 rfl aDD (by cases o<;>rfl)]
 simp only[Z8,seval];refine cM (fun m st=>∃(k:Nat) (a:Int),(st.env 0=ov bD o∧st.env 4=.v (.int .u64 a)∧st.env 5=.v (.int .i64 k))∧(0≤a∧a≤1000 * k)∧k≤(ol o).length∧m=(ol o).length-k)
  (fun e st=>e=.exit 0∧∃a:Int,st.env 4=.v (.int .u64 a)∧0≤a∧a≤1000000) (ol o).length ?step ?start ?rest
 case step =>
  rintro m st ⟨k,a,hI,ha,hk,hm⟩
  by_cases bA:(k:Int)<(ol o).length
  ·have q0:(0:Int)≤k:=by omega
   have hw:IntKind.i64.wrap ((k:Int)+1)=((k+1:Nat):Int):=by rw[pV _ (by omega) (by omega)];omega
   obtain⟨h1,h2⟩:=add a k ha (by omega)
   apply oN ((ol o).length-(k+1))
   ·simp only[Z8,seval,hI,bA,q0,aEy,dT,h1,hw];rfl
   ·exact⟨k+1,_,by simp only[E8,seval,hI]<;>rfl,h2,by omega,rfl⟩
  ·apply oT (.exit 0)
   ·simp only[Z8,seval,hI,bA];rfl
   ·exact⟨rfl,a,by simp only[E8,seval,hI],by omega⟩
 case start=>exact⟨0,0,by simp only[E8,seval]<;>exact⟨rfl,rfl⟩,by omega,by omega,by omega⟩
 case rest =>
  rintro e st ⟨rfl,a,h,ha⟩
  simp only[Z8,seval,h];exact⟨_,dM rfl rfl rfl (by simp only[E8,seval,h]<;>rfl) (by simp only[E8,seval,h]<;>rfl),_,rfl,ha⟩
theorem aJX (t:Table) (b:Option (List Int)) (ht:t.jH=ov bD b) (hn:((ol b).length:Int)≤1000) (hb:∀x∈ol b,0≤x∧x≤1000):aD Tryz.prog 130 [.agg (cN t),.v (.int .i64 (ol b).length)]=some (.v (.int .i64 0)):=by
 obtain⟨a,hr,a0,a1⟩:=aJW b hn hb
 have ZS:=kx hr (cO (dX b)) (.eB _ (bI (.v _) (.v _)))
 rw[cL Tryz.func130 rfl aDF rfl];refine lM ?_
 have h3:(4611686018427387904<a)=False:=eq_false (by omega)
 simp only[Z8,seval,ht,bt (rfl:((ol b).length:Int)=(ol b).length),ZS,dT,h3];exact⟨_,bX rfl (by simp only[E8,seval]<;>rfl) (by first|exact .v _|simp only[dU]),rfl⟩
theorem aBf:mkRoot 1≠dI:=by decide
structure Nd (c:Config) (b:List Int):Prop where
 jH:c.jH=ov bD (some b)
 nb:1≤b.length∧b.length≤64
 bv:∀x∈b,0≤x∧x≤1000
 qG:1≤c.qG∧c.qG≤64
 bp:c.Gq≤100
 rD:1≤c.lT.rD∧c.lT.rD≤4096
 vQ:0≤c.lT.vQ∧c.lT.vQ≤64
 pM:0≤c.lT.pM∧c.lT.pM≤256
 qJ:1≤c.lT.qJ∧c.lT.qJ≤64
 nK:0≤c.lT.nK∧c.lT.nK≤256
 back:1≤c.lT.qV∧c.lT.qV≤1048576
 gen:c.dV=mkRoot 1
 n6:6≤c.lT.rD
theorem aE2 (n:Nat):((List.range n).flatMap fun _=>lV rT)=cV (List.replicate n rT):=by
 induction n with
 | zero=>rfl
 | succ n ih=>rw[List.range_succ,List.flatMap_append,ih,List.replicate_succ',cV,cV,List.flatMap_append];simp
theorem LF (t:Table):aR [t]=cN t:=by simp[aR]
def FH (c:Config):Block:={ eQ with root:=c.dV,gP:=⟨0,c.dV⟩,fin:=⟨0,c.dV⟩,dN:=⟨⟨0,c.dV⟩,⟨0,c.dV⟩⟩}
def SK (c:Config) (b:List Int):aN:=⟨c,⟨ov cV (some (List.replicate b.length rT)),.v (.slice none 0 0)⟩,⟨⟨0,c.dV⟩,⟨0,c.dV⟩⟩,Ah,⟨.sl 1 (bZ [⟨FH c,-1,1⟩])⟩,0,dI,ov aR (some [⟨⟨0,c.dV⟩,ov bD (some b)⟩])⟩
def Ta (c:Config) (b:List Int):SV:={ B:=some b,L:=some (List.replicate b.length rT),Q:=none,E:=none,O:=none,ns:=[⟨FH c,-1,1⟩],T:=some [⟨⟨0,c.dV⟩,ov bD (some b)⟩]}
theorem GI.new {c:Config} {b:List Int} (h:Nd c b):GI (SK c b) (Ta c b) 0:=by
 have hb:=h.nb
 refine⟨⟨h.jH,rfl,rfl,rfl,rfl,rfl,rfl, ?_, ?_, ?_, ?_, ?_, ?_, ?_, ?_, ?_⟩, ?_, ?_, ?_, ?_,h.rD.2,h.qG, ?_, ?_, ?_,h.vQ.2, ?_,h.pM.2, ?_,h.qJ.2, ?_,by omega, ?_⟩
 ·intro a ha;cases ha
 ·intro t ht;rw[show t=⟨⟨0,c.dV⟩,ov bD (some b)⟩ by simpa [Ta,ol] using ht]
  exact⟨some b,rfl,by show (b.length:Int)<_;omega⟩
 ·show (b.length:Int)<_;omega
 ·show ((List.replicate b.length rT).length:Int)<_;rw[List.length_replicate];omega
 ·show ((0:Nat):Int)<_;omega
 ·show ((0:Nat):Int)<_;omega
 ·show ((0:Nat):Int)<_;omega
 ·show ((1:Nat):Int)<_;omega
 ·show ((1:Nat):Int)<_;omega
 ·intro i h0 h1;have:i<((1:Nat):Int):=h1;omega
 ·rfl
 ·show 0<1;omega
 ·show ((1:Nat):Int)≤c.lT.rD;have:=h.rD.1;omega
 ·show (List.replicate b.length rT).length=b.length;rw[List.length_replicate]
 ·show (b.length:Int)≤1024;omega
 ·show ((0:Nat):Int)≤c.lT.vQ;have:=h.vQ.1;omega
 ·show ((0:Nat):Int)≤c.lT.pM;have:=h.pM.1;omega
 ·show ((1:Nat):Int)≤c.lT.qJ;have:=h.qJ.1;omega
 ·show ((0:Nat):Int)≤0;omega
 ·exact Na (j:=0) (by omega) (by show (0:Int)<((1:Nat):Int);omega) rfl
theorem aOA {c:Config} {b:List Int} (h:Nd c b):aD Tryz.prog 102 [.agg (bR c)]=some (.eB [.agg (aB (SK c b)),.v (.int .i64 0)]):=by
 obtain⟨hbal,hnb,hbv,hspe,hbp,h1,h2,h3,h4,h5,h6,hg0,_⟩:=h
 have hg:c.dV≠dI:=by rw[hg0];exact aBf
 have f1:=hspe.1;have f2:¬64<c.qG:=by omega
 have f1':¬c.qG<1:=by omega
 have f3:¬100<c.Gq:=by omega
 have f4:¬(1024:Int)<(b.length:Int):=by omega
 have f6:¬c.lT.qV<1:=by omega
 have f7:¬1048576<c.lT.qV:=by omega
 have n1:((ol (some b)).length:Int)<1000000:=by show (b.length:Int)<_;omega
 have hb0:(0:Int)≤(b.length:Int):=by omega
 have QY:(b.length:Int) * 48≤140737488355328:=by omega
 have WH:(b.length:Int)≤(maxLen:Int):=by unfold maxLen;omega
 have zE:gR.aK=0:=rfl
 have kt:∀(st:St) (d:Option Nat),aP (aD Tryz.prog) 130 [.agg (cN ⟨⟨0,c.dV⟩,ov bD (some b)⟩),.v (.int .i64 b.length)] st d=some { dst:=d,val:=.v (.int .i64 0)}:=kx (aJX ⟨⟨0,c.dV⟩,ov bD (some b)⟩ (some b) rfl (by show (b.length:Int)≤_;omega) hbv) (bI ((kL ⟨⟨0,c.dV⟩,ov bD (some b)⟩).2 (dX (some b))) (.v _)) (.v _)
 have aEQ:=kx (aJa ⟨⟨0,c.dV⟩,ov bD (some b)⟩ (some b) rfl n1) (cO ((kL ⟨⟨0,c.dV⟩,ov bD (some b)⟩).2 (dX (some b)))) ((kL ⟨⟨0,c.dV⟩,ov bD (some b)⟩).2 (dX (some b)))
 rw[cL Tryz.func102 rfl aJY rfl];refine lM ?_
 simp only[Z8,seval,qH,qI,hbal,f1',f2,f3,f4,f6,f7,aNc,h1.1,h1.2,h2.1,h2.2,h3.1,h3.2,h4.1,h4.2,h5.1,h5.2,hg,zE,kt,hb0,QY,WH,Int.toNat_natCast,aE2,aEQ,aM3,Dx b (show (b.length:Int)<1000000 by omega)]
 have exT:=Mz 1 [⟨⟨0,c.dV⟩,ov bD (some b)⟩] (by intro y hy;rw[List.mem_singleton] at hy;subst hy;exact dX (some b))
 rw[LF] at exT;have hcc:∀x,x=c.jH→({ lT:=c.lT,qG:=c.qG,Gq:=c.Gq,AD:=c.AD,dV:=c.dV,jH:=x }:Config)=c:=by rintro _ rfl;rfl
 have zs:gE.fY.gZ=.v (.slice none 0 0)∧gE.dQ.early=.v (.slice none 0 0)∧gE.dQ.bY=.v (.slice none 0 0):=⟨rfl,rfl,rfl⟩
 exact⟨_,by apply dM;rfl;all_goals simp only[aI,bS,Z8,seval,bO,gB,bC,uS,Uf,exT,cE,dU,zs]<;>rfl,by unfold SK;simp only[ov,List.length_replicate,LF,hcc (.sl b.length (bD b)) hbal.symm]<;>rfl⟩
end Go.Ab.Tryz
section
namespace Go.Ab
open Classical
theorem Ik [Ext] (P:Program) {f:Nat} {fn:Func} {c:Code} (hf:P.funcs[f]? = some fn) (hb:fn.body=some c) (rK:bG fn=true) (e sz m:Nat) (cs xs:List AV) (hx:Ext.ext f (.uniq e sz m cs :: xs)=none) :
 aD P f (.uniq e sz m cs :: xs)=cH (yB P c (St.sN e sz m cs xs)) (l9 P fn):=by
 simp only[bG,hb,Bool.and_eq_true,Bool.not_eq_true'] at rK;rw[LG P hf hb rK.1 e sz m cs xs hx,rK.2];rfl
theorem XH [Ext] (P:Program) {f:Nat} {fn:Func} {c:Code} (hf:P.funcs[f]? = some fn) (hb:fn.body=some c) (rK:tY fn=true) (hc:mY c=true) (e sz m:Nat) (cs xs:List AV) (hx:Ext.ext f (.uniq e sz m cs :: xs)=none) :
 aD P f (.uniq e sz m cs :: xs)=cH (vT P true c (St.sN e sz m cs xs)) (l9 P fn):=by
 rw[LG P hf hb rK e sz m cs xs hx,hc]
theorem yM [Ext] {P:Program} {fn:Func} {st:St} {e:Ex} {t s g ee sz n:Nat} {cs:List AV} (he:e=.ret∨e=.normal) (hr:fn.results.toList=[.tmp t]) (h1:st.env t=.own s g) (h2:st.heap s g=some (.row ee sz n cs)) (hm:∀c∈cs,fF c) :
 l9 P fn (e,st)=some (.uniq ee sz n cs):=LH he hr (by unfold jR;simp only[h1]) h2 hm
end Go.Ab
namespace Go.Ab.Tryz
open Classical Go.Proofs Go.Ab
theorem yN (l:List Int):∀c∈jS l,fF c:=by
 intro c hc;unfold jS at hc;obtain⟨x,_,hx⟩:=List.mem_flatMap.1 hc
 rw[cU8,List.mem_singleton] at hx;subst hx;exact .v _
def Wr (F:Nat) (rest:List AV) (K:Int):Prop:=∀l:List Int,(l.length:Int)+K<900000→∃m:List Int,aD Tryz.prog F (.uniq 5 1 l.length (jS l) :: rest)=some (.uniq 5 1 m.length (jS m))∧(m.length:Int)≤l.length+K
def WrN (F:Nat) (rest:List AV) (K:Int):Prop:=∃m:List Int,aD Tryz.prog F (.v (.slice none 0 0) :: rest)=some (.uniq 5 1 m.length (jS m))∧(m.length:Int)≤K
theorem Wr.at {F:Nat} {rest:List AV} {K:Int} (h:Wr F rest K) (hr:∀x∈rest,Flat x) {l:List Int} (hl:(l.length:Int)+K<900000) :
 ∃m:List Int,(∀s k d c,mvE (aD Tryz.prog) F rest s k d c (some (.row 5 1 l.length (jS l)))=some { dst:=some d,val:=.own d c,dJ:=some (s,k,none),new:=some (d,[.row 5 1 m.length (jS m)])})∧(m.length:Int)≤l.length+K:=by
 obtain⟨m,h1,h2⟩:=h l hl
 exact⟨m,fun s k d c=>LI (uU l) hr h1,h2⟩
theorem WrN.at {F:Nat} {rest:List AV} {K:Int} (h:WrN F rest K) (hr:∀x∈rest,Flat x) :
 ∃m:List Int,(∀(st:St) (d:Nat),kU (aD Tryz.prog) F (.v (.slice none 0 0) :: rest) st (some d)=some { dst:=some d,val:=.own d (st.aO d),new:=some (d,[.row 5 1 m.length (jS m)])})∧(m.length:Int)≤K:=by
 obtain⟨m,h1,h2⟩:=h
 exact⟨m,fun st d=>SL hr h1,h2⟩
def tb:Nat→Int
 | 0=>18446744073709551616
 | k+1=>tb k / 128+1
theorem tb9:tb 9=3:=by decide
theorem XI (x:Int):x.fdiv (2 ^ min 7 IntKind.u64.bits)=x / 128:=by
 show x.fdiv 128=x / 128
 exact Int.fdiv_eq_ediv_of_nonneg x (by decide)
theorem aBg (l:List Int):jS l=l.map fun x=>.v (.int .u8 x):=by
 induction l with
 | nil=>rfl
 | cons a l ih=>simp only[jS,List.flatMap_cons,List.map_cons,cU8] at *;rw[ih];rfl
theorem LJ (r:cC):aV r=jS r.toList:=by rw[aBg];rfl
theorem Ui {P:Program} {T:Nat} {k:IntKind} {a b:Int}:gQ P .or T (.v (.int k a)) (.v (.int k b))=some (.v (.int k (k.wrap (BitVec.ofInt k.bits a ||| BitVec.ofInt k.bits b).toNat))):=by simp[gQ]
theorem aJ0:dK Tryz.prog 27=none:=by kernel_rfl
theorem aJ1 (r:cC) (st:St) (s g o:Nat) (h:st.heap s g=some (.cells (aV r))):cU Tryz.prog st 27 (.ptr s g o) none none=some (.vw s g o 32):=by
 simp only[cU,aJ0,aEJ,h]
theorem K4 (st:St) (s g:Nat) (r:cC) (h:st.heap s g=some (.cells (aV r))):aQ st (.vw s g 0 32)=some (r.toList.length,jS r.toList):=by
 have hl:(aV r).length=32:=aL r
 simp only[aQ,h,Nat.zero_add,List.drop_zero];rw[if_pos (by omega),List.take_of_length_le (by omega),LJ]
 simp
theorem Wi (n:Int) (hn:Rg n):Wr 215 [.v (.int .u64 n)] 10:=by
 intro l hl;suffices h:∃r,aD Tryz.prog 215 [.uniq 5 1 l.length (jS l),.v (.int .u64 n)]=some r∧∃m:List Int,r=.uniq 5 1 m.length (jS m)∧(m.length:Int)≤l.length+10 by
  obtain⟨r,h,m,rfl,h2⟩:=h;exact⟨m,h,h2⟩
 rw[Ik Tryz.prog Tryz.func215 rfl aDQ _ _ _ _ _ (rU _ _)];simp only[Z8,seval,iT,lP,iU,jW,lR];refine cM (fun m st=>∃(x:Int) (k:Nat) (l':List Int) (a g:Nat),(st.env 0=.own a g∧st.heap a g=some (.row 5 1 l'.length (jS l'))∧st.env 1=.v (.int .u64 x))∧((a=0∧g=0)∨(a=13∧g<st.aO 13))∧l'.length=l.length+k∧0≤x∧x<tb k∧k≤9∧m=x.toNat)
  (fun e st=>e=.exit 0∧∃(x:Int) (l':List Int) (a g:Nat),(st.env 0=.own a g∧st.heap a g=some (.row 5 1 l'.length (jS l'))∧st.env 1=.v (.int .u64 x))∧a≠19∧(l'.length:Int)≤l.length+9) n.toNat ?step ?start ?rest
 case step =>
  rintro m st ⟨x,k,l',a,g,hI,FI,Df,x0,hx,hk,hm⟩
  by_cases bA:127<x
  ·have hk8:k≤8:=by
    rcases Nat.lt_or_ge k 9 with h|h
    ·omega
    ·have:k=9:=by omega
     subst this;rw[tb9] at hx;omega
   have Pm:(l'.length:Int)<1000000:=by omega
   have Il:x / 128<tb (k+1):=by show x / 128<tb k / 128+1;omega
   have ll:∀b:Int,(l'++[b]).length=l.length+(k+1):=fun b=>by rw[List.length_append,List.length_cons,List.length_nil];omega
   rcases FI with ⟨rfl,rfl⟩|⟨rfl,hg⟩
   ·apply oN ((x / 128).toNat)
    ·simp only[Z8,seval,hI,bA,Ui,Kq _ _ _ _ Pm,XI];rfl
    ·exact⟨x / 128,k+1,_,13,_,by and_intros<;>(simp only[E8,seval]<;>rfl),.inr ⟨rfl,by simp only[E8,seval]<;>omega⟩,ll _,by omega,Il,by omega,rfl⟩
   ·have uD:(g=st.aO 13)=False:=eq_false (by omega)
    apply oN ((x / 128).toNat)
    ·simp only[Z8,seval,hI,bA,uD,Ui,Kq _ _ _ _ Pm,XI];rfl
    ·exact⟨x / 128,k+1,_,13,_,by and_intros<;>(simp only[E8,seval]<;>rfl),.inr ⟨rfl,by simp only[E8,seval]<;>omega⟩,ll _,by omega,Il,by omega,rfl⟩
  ·apply oT (.exit 0)
   ·simp only[Z8,seval,hI,bA];rfl
   ·exact⟨rfl,x,l',a,g,by simp only[E8,seval,hI],by omega,by omega⟩
 case start=>exact⟨n,0,l,0,0,by simp only[E8,seval,iT,lP,iU,jW,lR]<;>rfl,.inl ⟨rfl,rfl⟩,rfl,hn.1,hn.2,by omega,rfl⟩
 case rest =>
  rintro e st ⟨rfl,x,l',a,g,hI,ha,Df⟩
  have ha':(a=19)=False:=eq_false ha
  have Pm:(l'.length:Int)<1000000:=by omega
  simp only[Z8,seval,hI,ha',Kq _ _ _ _ Pm];exact⟨_,yM (.inl rfl) rfl (by simp only[E8,seval]<;>rfl) (by simp only[E8,seval]<;>rfl) (yN _),_,rfl,by rw[List.length_append,List.length_cons,List.length_nil];omega⟩
theorem n5 (n:Int) (hn:Rg n):WrN 215 [.v (.int .u64 n)] 10:=by
 suffices h:∃r,aD Tryz.prog 215 [.v (.slice none 0 0),.v (.int .u64 n)]=some r∧∃m:List Int,r=.uniq 5 1 m.length (jS m)∧(m.length:Int)≤10 by
  obtain⟨r,h,m,rfl,h2⟩:=h;exact⟨m,h,h2⟩
 rw[cL Tryz.func215 rfl aDQ rfl];simp only[Z8,seval];refine cM (fun m st=>∃(x:Int) (k:Nat),st.env 1=.v (.int .u64 x)∧((k=0∧st.env 0=.v (.slice none 0 0))∨∃(l':List Int) (g:Nat),(st.env 0=.own 13 g∧st.heap 13 g=some (.row 5 1 l'.length (jS l')))∧g<st.aO 13∧l'.length=k)∧0≤x∧x<tb k∧k≤9∧m=x.toNat)
  (fun e st=>e=.exit 0∧∃(x:Int),st.env 1=.v (.int .u64 x)∧(st.env 0=.v (.slice none 0 0)∨∃(l':List Int) (g:Nat),(st.env 0=.own 13 g∧st.heap 13 g=some (.row 5 1 l'.length (jS l')))∧(l'.length:Int)≤9)) n.toNat ?step ?start ?rest
 case step =>
  rintro m st ⟨x,k,hI,h0,x0,hx,hk,hm⟩
  by_cases bA:127<x
  ·have hk8:k≤8:=by
    rcases Nat.lt_or_ge k 9 with h|h
    ·omega
    ·have:k=9:=by omega
     subst this;rw[tb9] at hx;omega
   have Il:x / 128<tb (k+1):=by show x / 128<tb k / 128+1;omega
   rcases h0 with ⟨vM,h0⟩|⟨l',g,h0,hg,Df⟩
   ·have ll:∀b:Int,([b]:List Int).length=k+1:=fun b=>by rw[List.length_cons,List.length_nil];omega
    apply oN ((x / 128).toNat)
    ·simp only[Z8,seval,hI,h0,bA,Ui,SM,XI];rfl
    ·exact⟨x / 128,k+1,by simp only[E8,seval],.inr ⟨_,_,⟨by simp only[E8,seval]<;>rfl,by simp only[E8,seval]<;>rfl⟩,by simp only[E8,seval]<;>omega,ll _⟩,by omega,Il,by omega,rfl⟩
   ·have Pm:(l'.length:Int)<1000000:=by omega
    have ll:∀b:Int,(l'++[b]).length=k+1:=fun b=>by rw[List.length_append,List.length_cons,List.length_nil];omega
    have uD:(g=st.aO 13)=False:=eq_false (by omega)
    apply oN ((x / 128).toNat)
    ·simp only[Z8,seval,hI,h0,bA,uD,Ui,Kq _ _ _ _ Pm,XI];rfl
    ·exact⟨x / 128,k+1,by simp only[E8,seval],.inr ⟨_,_,⟨by simp only[E8,seval]<;>rfl,by simp only[E8,seval]<;>rfl⟩,by simp only[E8,seval]<;>omega,ll _⟩,by omega,Il,by omega,rfl⟩
  ·have h0':st.env 0=.v (.slice none 0 0)∨∃(l':List Int) (g:Nat),(st.env 0=.own 13 g∧st.heap 13 g=some (.row 5 1 l'.length (jS l')))∧(l'.length:Int)≤9:=by
    rcases h0 with ⟨_,h0⟩|⟨l',g,h0,hg,Df⟩
    ·exact .inl h0
    ·exact .inr ⟨l',g,h0,by omega⟩
   apply oT (.exit 0)
   ·simp only[Z8,seval,hI,bA];rfl
   ·exact⟨rfl,x,by simp only[E8,seval,hI],by simpa only[E8,seval] using h0'⟩
 case start=>exact⟨n,0,by simp only[E8,seval]<;>rfl,.inl ⟨rfl,by simp only[E8,seval]<;>rfl⟩,hn.1,hn.2,by omega,rfl⟩
 case rest =>
  rintro e st ⟨rfl,x,hI,h0⟩
  rcases h0 with h0|⟨l',g,h0,Df⟩
  ·simp only[Z8,seval,hI,h0,SM];exact⟨_,Wj (n:=([IntKind.u8.wrap x]:List Int).length) (cs:=jS [IntKind.u8.wrap x]) (aI (by decide)) (.inl rfl) rfl (by simp only[E8,seval]<;>rfl) (by simp only[E8,seval]<;>rfl) (uU _),_,rfl,by rw[List.length_cons,List.length_nil];omega⟩
  ·have Pm:(l'.length:Int)<1000000:=by omega
   simp only[Z8,seval,hI,h0,Kq _ _ _ _ Pm];exact⟨_,rP rfl (by simp only[E8,seval]<;>rfl) (by simp only[E8,seval]<;>rfl) (uU _),_,rfl,by rw[List.length_append,List.length_cons,List.length_nil];omega⟩
theorem FJ (r:cC):Wr 226 [.agg (aV r)] 32:=by
 intro l hl;suffices h:∃x,aD Tryz.prog 226 [.uniq 5 1 l.length (jS l),.agg (aV r)]=some x∧∃m:List Int,x=.uniq 5 1 m.length (jS m)∧(m.length:Int)≤l.length+32 by
  obtain⟨r,h,m,rfl,h2⟩:=h;exact⟨m,h,h2⟩
 have Pm:(l.length:Int)<1000000:=by omega
 have hc:aV r=jS r.toList:=LJ r
 have hr:(r.toList.length:Int)<1000000:=by simp
 rw[Ik Tryz.prog Tryz.func226 rfl aJ2 _ _ _ _ _ (rU _ _)];simp only[Z8,seval,iT,lP,iU,jW,lR,aJ1 r,K4 _ _ _ r,SN _ _ _ _ Pm hr];exact⟨_,yM (.inl rfl) rfl (by simp only[E8,seval]<;>rfl) (by simp only[E8,seval]<;>rfl) (yN _),_,rfl,by rw[List.length_append];simp⟩
theorem K5 (c:fK) (h:Rg c.aK):Wr 228 [.agg (bV c)] 42:=by
 intro l hl;suffices h:∃r,aD Tryz.prog 228 [.uniq 5 1 l.length (jS l),.agg (bV c)]=some r∧∃m:List Int,r=.uniq 5 1 m.length (jS m)∧(m.length:Int)≤l.length+42 by
  obtain⟨r,h,m,rfl,h2⟩:=h;exact⟨m,h,h2⟩
 obtain⟨m1,e1,b1⟩:=(Wi c.aK h).at (cO (.v _)) (l:=l) (by omega)
 obtain⟨m2,e2,b2⟩:=(FJ c.root).at (cO (pZ _)) (l:=m1) (by omega)
 rw[XH Tryz.prog Tryz.func228 rfl aJ3 (by kernel_rfl) _ _ _ _ _ (rU _ _)]
 simp only[ZG,seval,Bool.false_and,Prod.mk.injEq,aJ4,iT,lP,iU,jW,lR,e1,e2];exact⟨_,yM (.inl rfl) rfl (by simp only[E8,seval]<;>rfl) (by simp only[E8,seval]<;>rfl) (yN _),_,rfl,by omega⟩
end Go.Ab.Tryz
end
namespace Go.Ab.Tryz
open Classical Go.Proofs Go.Ab
theorem aJ5 (o p:Option (List Int)) (hn:((ol o).length:Int)<1000000):∃r,aD Tryz.prog 105 [ov aJ o,ov aJ p]=some r∧∃b:Bool,r=.v (.bool b):=by
 rw[cL Tryz.func105 rfl aJ6 (by cases o<;>cases p<;>rfl)]
 by_cases g:((ol o).length:Int)=((ol p).length:Int)
 case neg =>
  simp only[Z8,seval,bf g];exact⟨_,bX rfl (by simp only[E8,seval]<;>rfl) (by first|exact .v _|simp only[dU]),_,rfl⟩
 simp only[Z8,seval,bt g];refine cM (fun m st=>∃k:Nat,(st.env 0=ov aJ o∧st.env 1=ov aJ p∧st.env 5=.v (.int .i64 k))∧k≤(ol o).length∧m=(ol o).length-k)
  (fun e st=>(e=.ret∧st.env 4=.v (.bool false))∨e=.exit 0) (ol o).length ?step ?start ?rest
 case step =>
  rintro m st ⟨k,hI,hk,hm⟩
  by_cases bA:(k:Int)<(ol o).length
  ·have q0:(0:Int)≤k:=by omega
   have q1:(k:Int)<((ol p).length:Int):=by omega
   have hw:IntKind.i64.wrap ((k:Int)+1)=((k+1:Nat):Int):=by rw[pV _ (by omega) (by omega)];omega
   by_cases hh:gx (0:Int) (ol o) (k:Int)=gx (0:Int) (ol p) (k:Int)
   ·apply oN ((ol o).length-(k+1))
    ·simp only[Z8,seval,hI,bA,q0,q1,bt hh,hw];rfl
    ·exact⟨k+1,by simp only[E8,seval,hI],by omega,rfl⟩
   ·apply oT (.ret)
    ·simp only[Z8,seval,hI,bA,q0,q1,bf hh];rfl
    ·exact .inl ⟨rfl,by simp only[E8,seval]⟩
  ·apply oT (.exit 0)
   ·simp only[Z8,seval,hI,bA];rfl
   ·exact .inr rfl
 case start=>exact⟨0,by simp only[E8,seval]<;>rfl,by omega,by omega⟩
 case rest =>
  rintro e st (⟨rfl,h⟩|rfl)
  ·simp only[Z8,seval,h];exact⟨_,bX rfl (by simp only[E8,seval,h]<;>rfl) (by first|exact .v _|simp only[dU,h]),_,rfl⟩
  ·simp only[Z8,seval];exact⟨_,bX rfl (by simp only[E8,seval]<;>rfl) (by first|exact .v _|simp only[dU]),_,rfl⟩
theorem aOC (o p:Option (List Int)) (hn:((ol o).length:Int)<1000000):∃r,aD Tryz.prog 103 [ov bD o,ov bD p]=some r∧∃b:Bool,r=.v (.bool b):=by
 rw[cL Tryz.func103 rfl aJ7 (by cases o<;>cases p<;>rfl)]
 by_cases g:((ol o).length:Int)=((ol p).length:Int)
 case neg =>
  simp only[Z8,seval,bf g];exact⟨_,bX rfl (by simp only[E8,seval]<;>rfl) (by first|exact .v _|simp only[dU]),_,rfl⟩
 simp only[Z8,seval,bt g];refine cM (fun m st=>∃k:Nat,(st.env 0=ov bD o∧st.env 1=ov bD p∧st.env 5=.v (.int .i64 k))∧k≤(ol o).length∧m=(ol o).length-k)
  (fun e st=>(e=.ret∧st.env 4=.v (.bool false))∨e=.exit 0) (ol o).length ?step ?start ?rest
 case step =>
  rintro m st ⟨k,hI,hk,hm⟩
  by_cases bA:(k:Int)<(ol o).length
  ·have q0:(0:Int)≤k:=by omega
   have q1:(k:Int)<((ol p).length:Int):=by omega
   have hw:IntKind.i64.wrap ((k:Int)+1)=((k+1:Nat):Int):=by rw[pV _ (by omega) (by omega)];omega
   by_cases hh:gx (0:Int) (ol o) (k:Int)=gx (0:Int) (ol p) (k:Int)
   ·apply oN ((ol o).length-(k+1))
    ·simp only[Z8,seval,hI,bA,q0,q1,bt hh,hw];rfl
    ·exact⟨k+1,by simp only[E8,seval,hI],by omega,rfl⟩
   ·apply oT (.ret)
    ·simp only[Z8,seval,hI,bA,q0,q1,bf hh];rfl
    ·exact .inl ⟨rfl,by simp only[E8,seval]⟩
  ·apply oT (.exit 0)
   ·simp only[Z8,seval,hI,bA];rfl
   ·exact .inr rfl
 case start=>exact⟨0,by simp only[E8,seval]<;>rfl,by omega,by omega⟩
 case rest =>
  rintro e st (⟨rfl,h⟩|rfl)
  ·simp only[Z8,seval,h];exact⟨_,bX rfl (by simp only[E8,seval,h]<;>rfl) (by first|exact .v _|simp only[dU,h]),_,rfl⟩
  ·simp only[Z8,seval];exact⟨_,bX rfl (by simp only[E8,seval]<;>rfl) (by first|exact .v _|simp only[dU]),_,rfl⟩
theorem aOD (a b:rQ) (ha:Ev a) (hb:Ev b):∃r,aD Tryz.prog 108 [.agg (iF a),.agg (iF b)]=some r∧∃b:Bool,r=.v (.bool b):=by
 obtain⟨V,hV,nV⟩:=ha
 obtain⟨W,hW,nW⟩:=hb
 obtain⟨r1,e1,B,rfl⟩:=aJ5 V W nV
 have K6:=kx e1 (bI (bQ V) (bQ W)) (.v _)
 rw[cL Tryz.func108 rfl aJ8 rfl];by_cases g1:a.slot=b.slot
 case neg =>
  simp only[Z8,seval,hV,hW,bf g1];exact⟨_,bX rfl (by simp only[E8,seval]<;>rfl) (by first|exact .v _|simp only[dU]),_,rfl⟩
 by_cases g2:a.root=b.root
 case neg =>
  simp only[Z8,seval,hV,hW,bt g1,g2];exact⟨_,bX rfl (by simp only[E8,seval]<;>rfl) (by first|exact .v _|simp only[dU]),_,rfl⟩
 by_cases g3:a.target=b.target
 case neg =>
  simp only[Z8,seval,hV,hW,bt g1,g2,g3];exact⟨_,bX rfl (by simp only[E8,seval]<;>rfl) (by first|exact .v _|simp only[dU]),_,rfl⟩
 simp only[Z8,seval,hV,hW,bt g1,g2,g3,K6];exact⟨_,bX rfl (by simp only[E8,seval]<;>rfl) (by first|exact .v _|simp only[dU]),_,rfl⟩
theorem aOE (a b:Table) (ha:uB a) (hb:uB b):∃r,aD Tryz.prog 159 [.agg (cN a),.agg (cN b)]=some r∧∃b:Bool,r=.v (.bool b):=by
 obtain⟨V,hV,nV⟩:=ha
 obtain⟨W,hW,nW⟩:=hb
 obtain⟨r1,e1,B,rfl⟩:=aOC V W nV
 have k103:=kx e1 (bI (dX V) (dX W)) (.v _)
 rw[cL Tryz.func159 rfl aJ9 rfl];by_cases g1:a.ck=b.ck
 case neg =>
  simp only[Z8,seval,hV,hW,g1];exact⟨_,bX rfl (by simp only[E8,seval]<;>rfl) (by first|exact .v _|simp only[dU]),_,rfl⟩
 simp only[Z8,seval,hV,hW,g1,k103];exact⟨_,bX rfl (by simp only[E8,seval]<;>rfl) (by first|exact .v _|simp only[dU]),_,rfl⟩
def vU (a:Claim):Prop:=∃V:Option (List Int),a.eK=ov aJ V∧((ol V).length:Int)≤1000
theorem vU.fl {a:Claim} (h:vU a):Flat (.agg (gL a)):=by obtain⟨V,h,_⟩:=h;exact (yG a).2 (by rw[h];exact bQ V)
theorem aKa (a b:Claim) (ha:vU a) (hb:vU b):∃r,aD Tryz.prog 232 [.agg (gL a),.agg (gL b)]=some r∧∃b:Bool,r=.v (.bool b):=by
 obtain⟨V,hV,nV⟩:=ha
 obtain⟨W,hW,nW⟩:=hb
 obtain⟨r1,e1,B,rfl⟩:=aJ5 V W (by omega)
 have K6:=kx e1 (bI (bQ V) (bQ W)) (.v _)
 rw[cL Tryz.func232 rfl aKb rfl];by_cases g1:a.source=b.source
 case neg =>
  simp only[Z8,seval,hV,hW,bf g1];exact⟨_,bX rfl (by simp only[E8,seval]<;>rfl) (by first|exact .v _|simp only[dU]),_,rfl⟩
 by_cases g2:a.target=b.target
 case neg =>
  simp only[Z8,seval,hV,hW,bt g1,bf g2];exact⟨_,bX rfl (by simp only[E8,seval]<;>rfl) (by first|exact .v _|simp only[dU]),_,rfl⟩
 by_cases g3:a.root=b.root
 case neg =>
  simp only[Z8,seval,hV,hW,bt g1,bt g2,g3];exact⟨_,bX rfl (by simp only[E8,seval]<;>rfl) (by first|exact .v _|simp only[dU]),_,rfl⟩
 simp only[Z8,seval,hV,hW,bt g1,bt g2,g3,K6];exact⟨_,bX rfl (by simp only[E8,seval]<;>rfl) (by first|exact .v _|simp only[dU]),_,rfl⟩
theorem aOF (a b:fN) (h1:vU a.first) (h2:vU a.second) (h3:vU b.first) (h4:vU b.second):∃r,aD Tryz.prog 216 [.agg (bW a),.agg (bW b)]=some r∧∃b:Bool,r=.v (.bool b):=by
 obtain⟨r1,e1,B1,rfl⟩:=aKa a.first b.first h1 h3
 obtain⟨r2,e2,B2,rfl⟩:=aKa a.second b.second h2 h4
 have k1:=kx e1 (bI h1.fl h3.fl) (.v _)
 have k2:=kx e2 (bI h2.fl h4.fl) (.v _)
 rw[cL Tryz.func216 rfl aKc rfl];cases B1
 ·simp only[Z8,seval,k1];exact⟨_,bX rfl (by simp only[E8,seval]<;>rfl) (by first|exact .v _|simp only[dU]),_,rfl⟩
 ·simp only[Z8,seval,k1,k2];exact⟨_,bX rfl (by simp only[E8,seval]<;>rfl) (by first|exact .v _|simp only[dU]),_,rfl⟩
structure oS (x:wG):Prop where
 Fk:∃V:Option (List Int),x.Fk.eK=ov aJ V∧((ol V).length:Int)≤1000
 c1:vU x.oD.first
 c2:vU x.oD.second
 SO:∃b:Option (List Int),x.table.jH=ov bD b∧((ol b).length:Int)≤1000∧∀y∈ol b,Rg y
 rb:RB x.block
 ra:Rg x.Fk.slot∧Rg x.Fk.target.aK
 rs:Rg x.oD.first.source∧Rg x.oD.first.target∧Rg x.oD.second.source∧Rg x.oD.second.target
 rt:Rg x.table.ck.aK
 rv:Rg x.verdict.tagged.tag
theorem oS.aDR {x:wG} (h:oS x):Ev x.Fk:=by obtain⟨V,h1,h2⟩:=h.Fk;exact⟨V,h1,by omega⟩
theorem oS.K7 {x:wG} (h:oS x):uB x.table:=by obtain⟨V,h1,h2,_⟩:=h.SO;exact⟨V,h1,by omega⟩
theorem oS.fl {x:wG} (h:oS x):Flat x.Fk.eK∧Flat x.oD.first.eK∧Flat x.oD.second.eK∧Flat x.table.jH:=by
 obtain⟨V,h1,_⟩:=h.Fk;obtain⟨V2,h2,_⟩:=h.c1;obtain⟨V3,h3,_⟩:=h.c2;obtain⟨V4,h4,_⟩:=h.SO
 rw[h1,h2,h3,h4];exact⟨bQ _,bQ _,bQ _,dX _⟩
theorem oS.flat {x:wG} (h:oS x):Flat (.agg (kF x)):=(RQ x).2 h.fl
theorem SP (a b:wG) (ha:oS a) (hb:oS b):∃r,aD Tryz.prog 201 [.agg (kF a),.agg (kF b)]=some r∧∃b:Bool,r=.v (.bool b):=by
 have fa:=ha.fl
 have fb:=hb.fl
 obtain⟨r1,e1,B1,rfl⟩:=aOD a.Fk b.Fk ha.aDR hb.aDR
 obtain⟨r2,e2,B2,rfl⟩:=aOF a.oD b.oD ha.c1 ha.c2 hb.c1 hb.c2
 obtain⟨r3,e3,B3,rfl⟩:=aOE a.table b.table ha.K7 hb.K7
 have k1:=kx e1 (bI ((Ba _).2 fa.1) ((Ba _).2 fb.1)) (.v _)
 have k2:=kx e2 (bI ((mL _).2 ⟨fa.2.1,fa.2.2.1⟩) ((mL _).2 ⟨fb.2.1,fb.2.2.1⟩)) (.v _)
 have k3:=kx e3 (bI ((kL _).2 fa.2.2.2) ((kL _).2 fb.2.2.2)) (.v _)
 rw[cL Tryz.func201 rfl aKd rfl];by_cases g1:a.kind=b.kind
 case neg =>
  simp only[Z8,seval,qH,qI,bf g1];exact⟨_,bX rfl (by simp only[E8,seval]<;>rfl) (by first|exact .v _|simp only[dU]),_,rfl⟩
 by_cases g2:a.block=b.block
 case neg =>
  simp only[Z8,seval,qH,qI,bt g1,g2];exact⟨_,bX rfl (by simp only[E8,seval]<;>rfl) (by first|exact .v _|simp only[dU]),_,rfl⟩
 cases B1
 ·simp only[Z8,seval,qH,qI,bt g1,g2,k1];exact⟨_,bX rfl (by simp only[E8,seval]<;>rfl) (by first|exact .v _|simp only[dU]),_,rfl⟩
 cases B2
 ·simp only[Z8,seval,qH,qI,bt g1,g2,k1,k2];exact⟨_,bX rfl (by simp only[E8,seval]<;>rfl) (by first|exact .v _|simp only[dU]),_,rfl⟩
 cases B3
 ·simp only[Z8,seval,qH,qI,bt g1,g2,k1,k2,k3];exact⟨_,bX rfl (by simp only[E8,seval]<;>rfl) (by first|exact .v _|simp only[dU]),_,rfl⟩
 by_cases g3:a.verdict=b.verdict
 case neg =>
  simp only[Z8,seval,qH,qI,bt g1,g2,k1,k2,k3,g3];exact⟨_,bX rfl (by simp only[E8,seval]<;>rfl) (by first|exact .v _|simp only[dU]),_,rfl⟩
 by_cases g4:a.write=b.write
 case neg =>
  simp only[Z8,seval,qH,qI,bt g1,g2,k1,k2,k3,g3,bf g4];exact⟨_,bX rfl (by simp only[E8,seval]<;>rfl) (by first|exact .v _|simp only[dU]),_,rfl⟩
 simp only[Z8,seval,qH,qI,bt g1,g2,k1,k2,k3,g3,bt g4];exact⟨_,bX rfl (by simp only[E8,seval]<;>rfl) (by first|exact .v _|simp only[dU]),_,rfl⟩
theorem aBh (cs:List AV) (o:Nat) (h:32≤cs.length-o):fD Tryz.prog 26 cs o=some (.agg (rd cs o 32)):=by
 have e:fL Tryz.prog 26=some (true,32):=by kernel_rfl
 unfold fD;simp only[e];rw[if_pos ⟨by omega,h⟩]
theorem K8:sQ Tryz.prog 26=some 32:=by kernel_rfl
theorem aKe:dS Tryz.prog 26=some sT:=by kernel_rfl
theorem aKf:jB Tryz.prog 26=some (32,1):=by kernel_rfl
theorem aKg:dK Tryz.prog 26=none:=by kernel_rfl
theorem aKh (r:cC) (st:St) (s g o:Nat) (h:st.heap s g=some (.cells (aV r))):cU Tryz.prog st 26 (.ptr s g o) none none=some (.vw s g o 32):=by
 simp only[cU,aKg,aKf,h]
theorem aE4 (st:St) (x:AV) {k:IntKind} {i:Int} (h0:0≤i) (h1:i<32):bB Tryz.prog st 26 x (.v (.int k i))=uL x (i.toNat * 1):=ER aKf st x h0 h1
theorem wN (x:Int):(IntKind.u64.wrap x<0)=False:=by
 refine eq_false ?_
 unfold IntKind.wrap;simp[IntKind.signed,IntKind.bits]
 omega
theorem aOG (w:rS):∃r:cC,aD Tryz.prog 246 [.agg (gI w)]=some (.agg (aV r)):=by
 suffices h:∃x,aD Tryz.prog 246 [.agg (gI w)]=some x∧∃r:cC,x=.agg (aV r) by
  obtain⟨x,h,r,rfl⟩:=h;exact⟨r,h⟩
 rw[cL Tryz.func246 rfl aKi rfl];simp only[Z8,seval,aKe];refine cM (fun m st=>∃(k:Nat) (r:cC),(st.env 1=.ptr 1 0 0∧st.heap 1 0=some (.cells (gI w))∧st.env 3=.ptr 3 0 0∧st.heap 3 0=some (.cells (aV r))∧st.env 2=.ptr 2 0 0∧st.heap 2 0=some (.cells (aV dI))∧st.env 4=.v (.int .i64 k))∧k≤32∧m=32-k)
  (fun e st=>e=.exit 0∧∃r:cC,st.env 3=.ptr 3 0 0∧st.heap 3 0=some (.cells (aV r))∧st.env 2=.ptr 2 0 0∧st.heap 2 0=some (.cells (aV dI))) 32 ?step ?start ?rest
 case step =>
  rintro m st ⟨k,r,hI,hk,hm⟩
  by_cases bA:(k:Int)<32
  ·have q0:(0:Int)≤k:=by omega
   have hw:IntKind.i64.wrap ((k:Int)+1)=((k+1:Nat):Int):=by rw[pV _ (by omega) (by omega)];omega
   obtain⟨i,hi⟩:∃i:Int,i=31-(k:Int):=⟨_,rfl⟩
   have hi1:IntKind.i64.wrap (31-(k:Int))=i:=by rw[pV _ (by omega) (by omega),hi]
   have i0:0≤i:=by omega
   have i1:i<32:=by omega
   have hj:IntKind.i64.wrap ((k:Int).tdiv 8)=(k:Int) / 8:=by rw[Int.tdiv_eq_ediv_of_nonneg q0,pV _ (by omega) (by omega)]
   have j0:0≤(k:Int) / 8:=by omega
   have j1:(k:Int) / 8<4:=by omega
   have i31:i.toNat≤31:=by omega
   have gw:=Pu w j0 j1
   have Vh:=fun x=>Vc r i.toNat (i.toNat+1) x (by omega) rfl
   apply oN (32-(k+1))
   ·simp only[Z8,seval,hI,bA,q0,hi1,i0,i1,hj,j0,j1,Gl,aE4,gw,i31,Vh,wN,Nat.mul_one,hw];rfl
   ·exact⟨k+1,_,by simp only[E8,seval,hI]<;>rfl,by omega,rfl⟩
  ·apply oT (.exit 0)
   ·simp only[Z8,seval,hI,bA];rfl
   ·exact⟨rfl,r,by simp only[E8,seval,hI]⟩
 case start=>exact⟨0,dI,by simp only[E8,seval]<;>rfl,by omega,by omega⟩
 case rest =>
  rintro e st ⟨rfl,r,hI⟩
  simp only[Z8,seval,hI,aBh,K8];exact⟨_,eU rfl (by simp only[E8,seval,hI,aBh,K8]<;>rfl) (by simp only[Z8,seval,hI,aBh,K8]<;>rfl) (by simp only[dU,and_self,hI,aBh,K8]),r,rfl⟩
theorem aOH (w:rS):∃r:cC,∀(st:St) (d:Option Nat),aP (aD Tryz.prog) 246 [.agg (gI w)] st d=some { dst:=d,val:=.agg (aV r)}:=by
 obtain⟨r,h⟩:=aOG w
 exact⟨r,kx h (cO (.agg _ (iG w))) (pZ r)⟩
theorem aKj (x:rS):Wr 227 [.agg (gI x)] 32:=by
 intro l hl;suffices h:∃r,aD Tryz.prog 227 [.uniq 5 1 l.length (jS l),.agg (gI x)]=some r∧∃m:List Int,r=.uniq 5 1 m.length (jS m)∧(m.length:Int)≤l.length+32 by
  obtain⟨r,h,m,rfl,h2⟩:=h;exact⟨m,h,h2⟩
 have Pm:(l.length:Int)<1000000:=by omega
 obtain⟨r,kr⟩:=aOH x
 have hr:(r.toList.length:Int)<1000000:=by simp
 rw[Ik Tryz.prog Tryz.func227 rfl aKk _ _ _ _ _ (rU _ _)];simp only[Z8,seval,iT,lP,iU,jW,lR,kr,aKe,K8,aKh r,K4 _ _ _ r,SN _ _ _ _ Pm hr];exact⟨_,yM (.inl rfl) rfl (by simp only[E8,seval]<;>rfl) (by simp only[E8,seval]<;>rfl) (yN _),_,rfl,by rw[List.length_append];simp⟩
theorem aOI (b:Bool):Wr 229 [.v (.bool b)] 1:=by
 intro l hl;suffices h:∃r,aD Tryz.prog 229 [.uniq 5 1 l.length (jS l),.v (.bool b)]=some r∧∃m:List Int,r=.uniq 5 1 m.length (jS m)∧(m.length:Int)≤l.length+1 by
  obtain⟨r,h,m,rfl,h2⟩:=h;exact⟨m,h,h2⟩
 have Pm:(l.length:Int)<1000000:=by omega
 rw[Ik Tryz.prog Tryz.func229 rfl aKl _ _ _ _ _ (rU _ _)];cases b
 all_goals
  simp only[Z8,seval,iT,lP,iU,jW,lR,Kq _ _ _ _ Pm];exact⟨_,yM (.inl rfl) rfl (by simp only[E8,seval]<;>rfl) (by simp only[E8,seval]<;>rfl) (yN _),_,rfl,by rw[List.length_append,List.length_cons,List.length_nil];omega⟩
theorem jM (x:Int):Rg (IntKind.u64.wrap x):=by
 unfold Rg IntKind.wrap;simp[IntKind.signed,IntKind.bits]
 omega
theorem aE5 (V:Option (List Int)) (nV:((ol V).length:Int)≤1000):Wr 230 [ov aJ V] 10010:=by
 intro l hl;suffices h:∃r,aD Tryz.prog 230 [.uniq 5 1 l.length (jS l),ov aJ V]=some r∧∃m:List Int,r=.uniq 5 1 m.length (jS m)∧(m.length:Int)≤l.length+10010 by
  obtain⟨r,h,m,rfl,h2⟩:=h;exact⟨m,h,h2⟩
 obtain⟨m1,e1,b1⟩:=(Wi _ (jM ((ol V).length:Int))).at (cO (.v _)) (l:=l) (by omega)
 rw[Ik Tryz.prog Tryz.func230 rfl aKm _ _ _ _ _ (rU _ _)];simp only[Z8,seval,iT,lP,iU,jW,lR,e1];refine cM (fun m st=>∃(k:Nat) (p:List Int) (a g:Nat),(st.env 0=.own a g∧st.heap a g=some (.row 5 1 p.length (jS p))∧st.env 1=ov aJ V∧st.env 5=.v (.int .i64 k))∧((a=10∧g<st.aO 10)∨(a=24∧g<st.aO 24)∨(a=38∧g<st.aO 38))∧(p.length:Int)≤l.length+10+10 * k∧k≤(ol V).length∧m=(ol V).length-k)
  (fun e st=>e=.exit 0∧∃(p:List Int) (a g:Nat),(st.env 0=.own a g∧st.heap a g=some (.row 5 1 p.length (jS p)))∧(p.length:Int)≤l.length+10010) (ol V).length ?step ?start ?rest
 case step =>
  rintro m st ⟨k,p,a,g,hI,FI,hp,hk,hm⟩
  by_cases bA:(k:Int)<(ol V).length
  ·have q0:(0:Int)≤k:=by omega
   have hw:IntKind.i64.wrap ((k:Int)+1)=((k+1:Nat):Int):=by rw[pV _ (by omega) (by omega)];omega
   have fin:∀(p':List Int),(p'.length:Int)≤p.length+10→(p'.length:Int)≤l.length+10+10 * ((k+1:Nat):Int):=fun p' h=>by omega
   by_cases h1:(k:Int)=0
   ·have z0:(0:Int)<((ol V).length:Int):=by omega
    have z1:(0:Int)≤0:=by omega
    obtain⟨p',e2,b2⟩:=(Wi _ (jM (gx (0:Int) (ol V) (0:Int)))).at (cO (.v _)) (l:=p) (by omega)
    rcases FI with ⟨rfl,hg⟩|⟨rfl,hg⟩|⟨rfl,hg⟩
    ·apply oN ((ol V).length-(k+1))
     ·simp only[Z8,seval,hI,bA,q0,bt h1,z0,z1,e2,hw];rfl
     ·exact⟨k+1,p',_,_,⟨by simp only[E8,seval]<;>rfl,by simp only[E8,seval]<;>rfl,by simp only[E8,seval,hI],by simp only[E8,seval]⟩,.inr (.inl ⟨rfl,by simp only[E8,seval]<;>omega⟩),fin p' b2,by omega,rfl⟩
    ·have uD:(g=st.aO 24)=False:=eq_false (by omega)
     apply oN ((ol V).length-(k+1))
     ·simp only[Z8,seval,hI,uD,bA,q0,bt h1,z0,z1,e2,hw];rfl
     ·exact⟨k+1,p',_,_,⟨by simp only[E8,seval]<;>rfl,by simp only[E8,seval]<;>rfl,by simp only[E8,seval,hI],by simp only[E8,seval]⟩,.inr (.inl ⟨rfl,by simp only[E8,seval]<;>omega⟩),fin p' b2,by omega,rfl⟩
    ·apply oN ((ol V).length-(k+1))
     ·simp only[Z8,seval,hI,bA,q0,bt h1,z0,z1,e2,hw];rfl
     ·exact⟨k+1,p',_,_,⟨by simp only[E8,seval]<;>rfl,by simp only[E8,seval]<;>rfl,by simp only[E8,seval,hI],by simp only[E8,seval]⟩,.inr (.inl ⟨rfl,by simp only[E8,seval]<;>omega⟩),fin p' b2,by omega,rfl⟩
   ·have WV:IntKind.i64.wrap ((k:Int)-1)=(k:Int)-1:=pV _ (by omega) (by omega)
    have y0:(0:Int)≤(k:Int)-1:=by omega
    have y1:(k:Int)-1<((ol V).length:Int):=by omega
    obtain⟨p',e2,b2⟩:=(Wi _ (jM (IntKind.i64.wrap (IntKind.i64.wrap (gx (0:Int) (ol V) (k:Int)-gx (0:Int) (ol V) ((k:Int)-1))-1)))).at (cO (.v _)) (l:=p) (by omega)
    rcases FI with ⟨rfl,hg⟩|⟨rfl,hg⟩|⟨rfl,hg⟩
    ·apply oN ((ol V).length-(k+1))
     ·simp only[Z8,seval,hI,bA,q0,bf h1,WV,y0,y1,e2,hw];rfl
     ·exact⟨k+1,p',_,_,⟨by simp only[E8,seval]<;>rfl,by simp only[E8,seval]<;>rfl,by simp only[E8,seval,hI],by simp only[E8,seval]⟩,.inr (.inr ⟨rfl,by simp only[E8,seval]<;>omega⟩),fin p' b2,by omega,rfl⟩
    ·apply oN ((ol V).length-(k+1))
     ·simp only[Z8,seval,hI,bA,q0,bf h1,WV,y0,y1,e2,hw];rfl
     ·exact⟨k+1,p',_,_,⟨by simp only[E8,seval]<;>rfl,by simp only[E8,seval]<;>rfl,by simp only[E8,seval,hI],by simp only[E8,seval]⟩,.inr (.inr ⟨rfl,by simp only[E8,seval]<;>omega⟩),fin p' b2,by omega,rfl⟩
    ·have uD:(g=st.aO 38)=False:=eq_false (by omega)
     apply oN ((ol V).length-(k+1))
     ·simp only[Z8,seval,hI,uD,bA,q0,bf h1,WV,y0,y1,e2,hw];rfl
     ·exact⟨k+1,p',_,_,⟨by simp only[E8,seval]<;>rfl,by simp only[E8,seval]<;>rfl,by simp only[E8,seval,hI],by simp only[E8,seval]⟩,.inr (.inr ⟨rfl,by simp only[E8,seval]<;>omega⟩),fin p' b2,by omega,rfl⟩
  ·apply oT (.exit 0)
   ·simp only[Z8,seval,hI,bA];rfl
   ·exact⟨rfl,p,a,g,by simp only[E8,seval,hI],by omega⟩
 case start=>exact⟨0,m1,10,0,by and_intros<;>(simp only[E8,seval,iT,lP,iU,jW,lR]<;>rfl),.inl ⟨rfl,by simp only[E8,seval,iT,lP,iU,jW,lR]<;>omega⟩,by omega,by omega,by omega⟩
 case rest =>
  rintro e st ⟨rfl,p,a,g,hI,hp⟩
  simp only[Z8,seval,hI];exact⟨_,yM (.inl rfl) rfl (by simp only[E8,seval]<;>rfl) (by simp only[E8,seval,hI]<;>rfl) (yN _),_,rfl,hp⟩
theorem aOJ (c:Claim) (V:Option (List Int)) (hV:c.eK=ov aJ V) (nV:((ol V).length:Int)≤1000) (h1:Rg c.source) (h2:Rg c.target):Wr 231 [.agg (gL c)] 10100:=by
 intro l hl;suffices h:∃r,aD Tryz.prog 231 [.uniq 5 1 l.length (jS l),.agg (gL c)]=some r∧∃m:List Int,r=.uniq 5 1 m.length (jS m)∧(m.length:Int)≤l.length+10100 by
  obtain⟨r,h,m,rfl,h2⟩:=h;exact⟨m,h,h2⟩
 obtain⟨m1,e1,b1⟩:=(Wi c.source h1).at (cO (.v _)) (l:=l) (by omega)
 obtain⟨m2,e2,b2⟩:=(Wi c.target h2).at (cO (.v _)) (l:=m1) (by omega)
 obtain⟨m3,e3,b3⟩:=(FJ c.root).at (cO (pZ _)) (l:=m2) (by omega)
 obtain⟨m4,e4,b4⟩:=(aE5 V nV).at (cO (bQ V)) (l:=m3) (by omega)
 rw[XH Tryz.prog Tryz.func231 rfl aDS (by kernel_rfl) _ _ _ _ _ (rU _ _)]
 simp only[ZG,seval,Bool.false_and,Prod.mk.injEq,aDT,iT,lP,iU,jW,lR,e1,e2,e3,e4,hV,Af,Ag,Ew,Ey];exact⟨_,yM (.inl rfl) rfl (by simp only[E8,seval]<;>rfl) (by simp only[E8,seval]<;>rfl) (yN _),_,rfl,by omega⟩
theorem aOK (c:Claim) (V:Option (List Int)) (hV:c.eK=ov aJ V) (nV:((ol V).length:Int)≤1000) (h1:Rg c.source) (h2:Rg c.target):WrN 231 [.agg (gL c)] 10100:=by
 suffices h:∃r,aD Tryz.prog 231 [.v (.slice none 0 0),.agg (gL c)]=some r∧∃m:List Int,r=.uniq 5 1 m.length (jS m)∧(m.length:Int)≤10100 by
  obtain⟨r,h,m,rfl,h2⟩:=h;exact⟨m,h,h2⟩
 obtain⟨m1,e1,b1⟩:=(n5 c.source h1).at (cO (.v _))
 obtain⟨m2,e2,b2⟩:=(Wi c.target h2).at (cO (.v _)) (l:=m1) (by omega)
 obtain⟨m3,e3,b3⟩:=(FJ c.root).at (cO (pZ _)) (l:=m2) (by omega)
 obtain⟨m4,e4,b4⟩:=(aE5 V nV).at (cO (bQ V)) (l:=m3) (by omega)
 rw[cG Tryz.func231 rfl aDS (by kernel_rfl) rfl]
 simp only[ZG,seval,Bool.false_and,Prod.mk.injEq,aDT,e1,e2,e3,e4,hV,Af,Ag,Ew,Ey];exact⟨_,rP rfl (by simp only[E8,seval]<;>rfl) (by simp only[E8,seval]<;>rfl) (uU _),_,rfl,by omega⟩
theorem aOL (x:Block) (h:RB x):WrN 210 [.agg (aT x)] 400:=by
 suffices h:∃r,aD Tryz.prog 210 [.v (.slice none 0 0),.agg (aT x)]=some r∧∃m:List Int,r=.uniq 5 1 m.length (jS m)∧(m.length:Int)≤400 by
  obtain⟨r,h,m,rfl,h2⟩:=h;exact⟨m,h,h2⟩
 obtain⟨m1,e1,b1⟩:=(n5 x.slot h.sl).at (cO (.v _))
 obtain⟨m2,e2,b2⟩:=(FJ x.root).at (cO (pZ _)) (l:=m1) (by omega)
 obtain⟨m3,e3,b3⟩:=(FJ x.parent).at (cO (pZ _)) (l:=m2) (by omega)
 obtain⟨m4,e4,b4⟩:=(FJ x.iI).at (cO (pZ _)) (l:=m3) (by omega)
 obtain⟨m5,e5,b5⟩:=(aKj x.diff).at (cO (.agg _ (iG _))) (l:=m4) (by omega)
 obtain⟨m6,e6,b6⟩:=(aKj x.Vw).at (cO (.agg _ (iG _))) (l:=m5) (by omega)
 obtain⟨m7,e7,b7⟩:=(K5 x.gP h.j).at (cO (.agg _ (dA _))) (l:=m6) (by omega)
 obtain⟨m8,e8,b8⟩:=(K5 x.fin h.f).at (cO (.agg _ (dA _))) (l:=m7) (by omega)
 obtain⟨m9,e9,b9⟩:=(K5 x.dN.pj h.pj).at (cO (.agg _ (dA _))) (l:=m8) (by omega)
 obtain⟨m10,e10,b10⟩:=(K5 x.dN.pf h.pf).at (cO (.agg _ (dA _))) (l:=m9) (by omega)
 obtain⟨m11,e11,b11⟩:=(aOI x.Bd).at (cO (.v _)) (l:=m10) (by omega)
 rw[cG Tryz.func210 rfl aKn (by kernel_rfl) rfl]
 simp only[ZG,seval,Bool.false_and,Prod.mk.injEq,aKo,e1,e2,e3,e4,e5,e6,e7,e8,e9,e10,e11];exact⟨_,rP rfl (by simp only[E8,seval]<;>rfl) (by simp only[E8,seval]<;>rfl) (uU _),_,rfl,by omega⟩
def wO (r:AV):Prop:=∃(o:Option (List Int)) (e:Int),r=.eB [ov jS o,.v (.int .i64 e)]
theorem wO.none (e:Int):wO (.eB [.v (.slice none 0 0),.v (.int .i64 e)]):=⟨Option.none,e,rfl⟩
theorem wO.some (l:List Int) (e:Int):wO (.eB [.sl l.length (jS l),.v (.int .i64 e)]):=⟨Option.some l,e,rfl⟩
theorem aOM (a:rQ) (V:Option (List Int)) (hV:a.eK=ov aJ V) (nV:((ol V).length:Int)≤1000) (h1:Rg a.slot) (h2:Rg a.target.aK):∃r,aD Tryz.prog 211 [.agg (iF a)]=some r∧wO r:=by
 have JM:=kx (c40 V (by omega) 1024) (bI (bQ V) (.v _)) (.v _)
 obtain⟨e,he⟩:∃e,Zu (ol V) 1024=e:=⟨_,rfl⟩
 rw[he] at JM;obtain⟨m1,e1,b1⟩:=(n5 a.slot h1).at (cO (.v _))
 obtain⟨m2,e2,b2⟩:=(FJ a.root).at (cO (pZ _)) (l:=m1) (by omega)
 obtain⟨m3,e3,b3⟩:=(K5 a.target h2).at (cO (.agg _ (dA _))) (l:=m2) (by omega)
 obtain⟨m4,e4,b4⟩:=(aE5 V nV).at (cO (bQ V)) (l:=m3) (by omega)
 rw[cG Tryz.func211 rfl aKp (by kernel_rfl) rfl]
 by_cases g:e=0
 ·simp only[ZG,seval,Bool.false_and,Prod.mk.injEq,aDU,hV,JM,bt g,e1,e2,e3,e4,Af,Ag,Ew,Ey];exact⟨_,dM rfl rfl rfl (by simp only[E8,seval,Cf]<;>rfl) (by simp only[E8,seval,Cf]<;>rfl),wO.some _ _⟩
 ·simp only[ZG,seval,Bool.false_and,Prod.mk.injEq,aDU,hV,JM,bf g];exact⟨_,dM rfl rfl rfl (by simp only[E8,seval]<;>rfl) (by simp only[E8,seval]<;>rfl),wO.none _⟩
theorem aON (a:fN) (h1:vU a.first) (h2:vU a.second) (r1:Rg a.first.source) (r2:Rg a.first.target) (r3:Rg a.second.source) (r4:Rg a.second.target):∃r,aD Tryz.prog 212 [.agg (bW a)]=some r∧wO r:=by
 obtain⟨V,hV,nV⟩:=id h1
 obtain⟨W,hW,nW⟩:=id h2
 have kV:=kx (c40 V (by omega) 1024) (bI (bQ V) (.v _)) (.v _)
 have kW:=kx (c40 W (by omega) 1024) (bI (bQ W) (.v _)) (.v _)
 obtain⟨ev,Zw⟩:∃e,Zu (ol V) 1024=e:=⟨_,rfl⟩
 obtain⟨ew,hew⟩:∃e,Zu (ol W) 1024=e:=⟨_,rfl⟩
 rw[Zw] at kV;rw[hew] at kW;obtain⟨m1,e1,b1⟩:=(aOK a.first V hV nV r1 r2).at (cO h1.fl)
 obtain⟨m2,e2,b2⟩:=(aOJ a.second W hW nW r3 r4).at (cO h2.fl) (l:=m1) (by omega)
 rw[cL Tryz.func212 rfl aKq rfl];by_cases g1:ev=0
 case neg =>
  simp only[Z8,seval,hV,hW,kV,bf g1];exact⟨_,dM rfl rfl rfl (by simp only[E8,seval]<;>rfl) (by simp only[E8,seval]<;>rfl),wO.none _⟩
 by_cases g2:ew=0
 case neg =>
  simp only[Z8,seval,hV,hW,kV,kW,bt g1,bf g2];exact⟨_,dM rfl rfl rfl (by simp only[E8,seval]<;>rfl) (by simp only[E8,seval]<;>rfl),wO.none _⟩
 simp only[Z8,seval,hV,hW,kV,kW,bt g1,bt g2,e1,e2];exact⟨_,dM rfl rfl rfl (by simp only[E8,seval,Cf]<;>rfl) (by simp only[E8,seval,Cf]<;>rfl),wO.some _ _⟩
theorem aOO (t:Table) (b:Option (List Int)) (hb:t.jH=ov bD b) (nb:((ol b).length:Int)≤1000) (rb:∀y∈ol b,Rg y) (rt:Rg t.ck.aK):∃r,aD Tryz.prog 213 [.agg (cN t)]=some r∧wO r:=by
 have hfT:Flat (.agg (cN t)):=(kL t).2 (by rw[hb];exact dX b)
 obtain⟨m1,e1,b1⟩:=(n5 t.ck.aK rt).at (cO (.v _))
 obtain⟨m2,e2,b2⟩:=(FJ t.ck.root).at (cO (pZ _)) (l:=m1) (by omega)
 obtain⟨m3,e3,b3⟩:=(Wi _ (jM ((ol b).length:Int))).at (cO (.v _)) (l:=m2) (by omega)
 rw[cG Tryz.func213 rfl aKr (by kernel_rfl) rfl]
 have g1:¬(1024:Int)<((ol b).length:Int):=by omega
 simp only[ZG,seval,Bool.false_and,Prod.mk.injEq,LK,hb,g1,e1,e2,e3,Af,Ag,Ew,Ey];refine nJ (fun m st=>∃(k:Nat) (p:List Int) (a g:Nat),(st.env 1=.ptr 1 0 0∧st.heap 1 0=some (.cells (cN t))∧st.env 4=.own a g∧st.heap a g=some (.row 5 1 p.length (jS p))∧st.env 5=.v (.int .i64 k))∧((a=22∧g=0)∨(a=36∧g<st.aO 36))∧(p.length:Int)≤100+10 * k∧k≤(ol b).length∧m=(ol b).length-k)
  (fun e st=>e=.exit 0∧∃(p:List Int) (a g:Nat),st.env 4=.own a g∧st.heap a g=some (.row 5 1 p.length (jS p))) (ol b).length ?step ?start ?rest
 case step =>
  rintro m st ⟨k,p,a,g,hI,FI,hp,hk,hm⟩
  by_cases bA:(k:Int)<(ol b).length
  ·have q0:(0:Int)≤k:=by omega
   have hw:IntKind.i64.wrap ((k:Int)+1)=((k+1:Nat):Int):=by rw[pV _ (by omega) (by omega)];omega
   obtain⟨p',e4,b4⟩:=(Wi _ (rb _ (yI (z:=(0:Int)) q0 bA))).at (cO (.v _)) (l:=p) (by omega)
   rcases FI with ⟨rfl,rfl⟩|⟨rfl,hg⟩
   ·apply Fl ((ol b).length-(k+1))
    ·simp only[ZG,seval,Bool.false_and,Prod.mk.injEq,LK,hI,bA,q0,hb,e4,hw];rfl
    ·exact⟨k+1,p',36,_,⟨by simp only[E8,seval,hI],by simp only[E8,seval,hI],by simp only[E8,seval]<;>rfl,by simp only[E8,seval]<;>rfl,by simp only[E8,seval]⟩,.inr ⟨rfl,by simp only[E8,seval]<;>omega⟩,by omega,by omega,rfl⟩
   ·have uD:(g=st.aO 36)=False:=eq_false (by omega)
    apply Fl ((ol b).length-(k+1))
    ·simp only[ZG,seval,Bool.false_and,Prod.mk.injEq,LK,hI,uD,bA,q0,hb,e4,hw];rfl
    ·exact⟨k+1,p',36,_,⟨by simp only[E8,seval,hI],by simp only[E8,seval,hI],by simp only[E8,seval]<;>rfl,by simp only[E8,seval]<;>rfl,by simp only[E8,seval]⟩,.inr ⟨rfl,by simp only[E8,seval]<;>omega⟩,by omega,by omega,rfl⟩
  ·apply QN (.exit 0)
   ·simp only[ZG,seval,Bool.false_and,Prod.mk.injEq,LK,hI,bA,hb];rfl
   ·exact⟨rfl,p,a,g,by simp only[E8,seval,hI],by simp only[E8,seval,hI]⟩
 case start=>exact⟨0,m3,22,0,by and_intros<;>(simp only[E8,seval]<;>rfl),.inl ⟨rfl,rfl⟩,by omega,by omega,by omega⟩
 case rest =>
  rintro e st ⟨rfl,p,a,g,h4,hh⟩
  simp only[ZG,seval,Bool.false_and,Prod.mk.injEq,LK,h4,hh];exact⟨_,dM rfl rfl rfl (by simp only[E8,seval,h4,hh,Cf]<;>rfl) (by simp only[E8,seval,h4,hh,Cf]<;>rfl),wO.some _ _⟩
theorem aOP (v:eR) (h:Rg v.tagged.tag):∃r,aD Tryz.prog 214 [.agg (bU v)]=some r∧wO r:=by
 obtain⟨m1,e1,b1⟩:=(n5 v.tagged.tag h).at (cO (.v _))
 obtain⟨m2,e2,b2⟩:=(Wi _ (jM v.kind)).at (cO (.v _)) (l:=m1) (by omega)
 obtain⟨m3,e3,b3⟩:=(FJ v.dR).at (cO (pZ _)) (l:=m2) (by omega)
 rw[cG Tryz.func214 rfl aKs (by kernel_rfl) rfl]
 by_cases g1:v.kind<1
 ·simp only[ZG,seval,Bool.false_and,Prod.mk.injEq,K9,g1];exact⟨_,dM rfl rfl rfl (by simp only[E8,seval]<;>rfl) (by simp only[E8,seval]<;>rfl),wO.none _⟩
 by_cases g2:4<v.kind
 ·simp only[ZG,seval,Bool.false_and,Prod.mk.injEq,K9,g1,g2];exact⟨_,dM rfl rfl rfl (by simp only[E8,seval]<;>rfl) (by simp only[E8,seval]<;>rfl),wO.none _⟩
 simp only[ZG,seval,Bool.false_and,Prod.mk.injEq,K9,g1,g2,e1,e2,e3];exact⟨_,dM rfl rfl rfl (by simp only[E8,seval,Cf]<;>rfl) (by simp only[E8,seval,Cf]<;>rfl),wO.some _ _⟩
theorem aOQ (x:wG) (h:oS x):∃r,aD Tryz.prog 200 [.agg (kF x)]=some r∧wO r:=by
 have lO:=h.fl
 obtain⟨V,hV,nV⟩:=h.Fk
 obtain⟨b,hb,nb,rb⟩:=h.SO
 obtain⟨m1,e1,b1⟩:=(aOL x.block h.rb).at (cO (tZ _))
 obtain⟨r2,e2,o2,f2,rfl⟩:=aOM x.Fk V hV nV h.ra.1 h.ra.2
 obtain⟨r3,e3,o3,f3,rfl⟩:=aON x.oD h.c1 h.c2 h.rs.1 h.rs.2.1 h.rs.2.2.1 h.rs.2.2.2
 obtain⟨r4,e4,o4,f4,rfl⟩:=aOO x.table b hb nb rb h.rt
 obtain⟨r5,e5,o5,f5,rfl⟩:=aOP x.verdict h.rv
 have k2:=kx e2 (cO ((Ba _).2 lO.1)) (.eB _ (bI (xS _) (.v _)))
 have k3:=kx e3 (cO ((mL _).2 ⟨lO.2.1,lO.2.2.1⟩)) (.eB _ (bI (xS _) (.v _)))
 have k4:=kx e4 (cO ((kL _).2 lO.2.2.2)) (.eB _ (bI (xS _) (.v _)))
 have k5:=kx e5 (cO (.agg _ (fV _))) (.eB _ (bI (xS _) (.v _)))
 obtain⟨m6,e6,b6⟩:=(n5 _ (jM x.write)).at (cO (.v _))
 obtain⟨m7,e7,b7⟩:=(Wi _ (jM x.pW)).at (cO (.v _)) (l:=m6) (by omega)
 rw[cL Tryz.func200 rfl aKt rfl];by_cases g2:x.kind=2
 ·simp only[Z8,seval,bt g2,e1];exact⟨_,dM rfl rfl rfl (by simp only[E8,seval,Cf]<;>rfl) (by simp only[E8,seval,Cf]<;>rfl),wO.some _ _⟩
 by_cases g3:x.kind=3
 ·simp only[Z8,seval,bf g2,bt g3,k2,dT];exact⟨_,dM rfl rfl rfl (by simp only[E8,seval,qW]<;>rfl) (by simp only[E8,seval,qW]<;>rfl),_,_,rfl⟩
 by_cases g4:x.kind=4
 ·simp only[Z8,seval,bf g2,bf g3,bt g4,k3,dT];exact⟨_,dM rfl rfl rfl (by simp only[E8,seval,qW]<;>rfl) (by simp only[E8,seval,qW]<;>rfl),_,_,rfl⟩
 by_cases g5:x.kind=5
 ·simp only[Z8,seval,bf g2,bf g3,bf g4,bt g5,k4,dT];exact⟨_,dM rfl rfl rfl (by simp only[E8,seval,qW]<;>rfl) (by simp only[E8,seval,qW]<;>rfl),_,_,rfl⟩
 by_cases g6:x.kind=6
 ·simp only[Z8,seval,bf g2,bf g3,bf g4,bf g5,bt g6,k5,dT];exact⟨_,dM rfl rfl rfl (by simp only[E8,seval,qW]<;>rfl) (by simp only[E8,seval,qW]<;>rfl),_,_,rfl⟩
 by_cases g8:x.kind=8
 case neg =>
  simp only[Z8,seval,bf g2,bf g3,bf g4,bf g5,bf g6,bf g8];exact⟨_,dM rfl rfl rfl (by simp only[E8,seval]<;>rfl) (by simp only[E8,seval]<;>rfl),wO.none _⟩
 by_cases w1:x.write<0
 ·simp only[Z8,seval,bf g2,bf g3,bf g4,bf g5,bf g6,bt g8,w1];exact⟨_,dM rfl rfl rfl (by simp only[E8,seval]<;>rfl) (by simp only[E8,seval]<;>rfl),wO.none _⟩
 by_cases w2:32768<x.write
 ·simp only[Z8,seval,bf g2,bf g3,bf g4,bf g5,bf g6,bt g8,w1,w2];exact⟨_,dM rfl rfl rfl (by simp only[E8,seval]<;>rfl) (by simp only[E8,seval]<;>rfl),wO.none _⟩
 by_cases w3:x.pW<0
 ·simp only[Z8,seval,bf g2,bf g3,bf g4,bf g5,bf g6,bt g8,w1,w2,w3];exact⟨_,dM rfl rfl rfl (by simp only[E8,seval]<;>rfl) (by simp only[E8,seval]<;>rfl),wO.none _⟩
 by_cases w4:32768<x.pW
 ·simp only[Z8,seval,bf g2,bf g3,bf g4,bf g5,bf g6,bt g8,w1,w2,w3,w4];exact⟨_,dM rfl rfl rfl (by simp only[E8,seval]<;>rfl) (by simp only[E8,seval]<;>rfl),wO.none _⟩
 simp only[Z8,seval,bf g2,bf g3,bf g4,bf g5,bf g6,bt g8,w1,w2,w3,w4,e6,e7];exact⟨_,dM rfl rfl rfl (by simp only[E8,seval,Cf]<;>rfl) (by simp only[E8,seval,Cf]<;>rfl),wO.some _ _⟩
theorem XJ:Rg 0:=⟨by omega,by omega⟩
theorem zOk:oS yO:=⟨⟨none,rfl,by simp[ol]⟩,⟨none,rfl,by simp[ol]⟩,⟨none,rfl,by simp[ol]⟩,⟨none,rfl,by simp[ol],by simp[ol]⟩,⟨XJ,XJ,XJ,XJ,XJ⟩,⟨XJ,XJ⟩,⟨XJ,XJ,XJ,XJ⟩,XJ,XJ⟩
theorem aOR (x:wG) (h:oS x):∃r,aD Tryz.prog 184 [.agg (kF x)]=some r∧∃e:Int,r=.v (.int .i64 e):=by
 have z:=zOk
 have hf:=h.flat
 obtain⟨r1,e1,o1,e,rfl⟩:=aOQ x h
 have LM:=kx e1 (cO hf) (.eB _ (bI (xS _) (.v _)))
 rw[cG Tryz.func184 rfl aKu (by kernel_rfl) rfl]
 by_cases g1:x.kind<1
 ·simp only[ZG,seval,Bool.false_and,Prod.mk.injEq,Jm,g1];exact⟨_,bX rfl (by simp only[E8,seval]<;>rfl) (by first|exact .v _|simp only[dU]),_,rfl⟩
 by_cases g9:8<x.kind
 ·simp only[ZG,seval,Bool.false_and,Prod.mk.injEq,Jm,g1,g9];exact⟨_,bX rfl (by simp only[E8,seval]<;>rfl) (by first|exact .v _|simp only[dU]),_,rfl⟩
 by_cases g0:e=0
 case neg =>
  simp only[ZG,seval,Bool.false_and,Prod.mk.injEq,Jm,g1,g9,LM,dT,bf g0];exact⟨_,bX rfl (by simp only[E8,seval]<;>rfl) (by first|exact .v _|simp only[dU]),_,rfl⟩
 by_cases k2:x.kind=2
 ·have hy:oS { yO with kind:=x.kind,block:=x.block }:=⟨z.Fk,z.c1,z.c2,z.SO,h.rb,z.ra,z.rs,z.rt,z.rv⟩
  obtain⟨r2,e2,B,rfl⟩:=SP x { yO with kind:=x.kind,block:=x.block } h hy
  have Qc:=kx e2 (bI hf hy.flat) (.v _)
  have QO:=h.fl
  cases B
  all_goals
   simp only[ZG,seval,Bool.false_and,Prod.mk.injEq,Jm,g1,g9,LM,dT,bt g0,bt k2,Qc,Af,Ag,Ew,Ey];exact⟨_,bX rfl (by simp only[E8,seval]<;>rfl) (by first|exact .v _|simp only[dU]),_,rfl⟩
 by_cases k3:x.kind=3
 ·have hy:oS { yO with kind:=x.kind,Fk:=x.Fk }:=⟨h.Fk,z.c1,z.c2,z.SO,z.rb,h.ra,z.rs,z.rt,z.rv⟩
  obtain⟨r2,e2,B,rfl⟩:=SP x { yO with kind:=x.kind,Fk:=x.Fk } h hy
  have Qc:=kx e2 (bI hf hy.flat) (.v _)
  have QO:=h.fl
  cases B
  all_goals
   simp only[ZG,seval,Bool.false_and,Prod.mk.injEq,Jm,g1,g9,LM,dT,bt g0,bf k2,bt k3,Qc,Af,Ag,Ew,Ey];exact⟨_,bX rfl (by simp only[E8,seval]<;>rfl) (by first|exact .v _|simp only[dU]),_,rfl⟩
 by_cases k4:x.kind=4
 ·have hy:oS { yO with kind:=x.kind,oD:=x.oD }:=⟨z.Fk,h.c1,h.c2,z.SO,z.rb,z.ra,h.rs,z.rt,z.rv⟩
  obtain⟨r2,e2,B,rfl⟩:=SP x { yO with kind:=x.kind,oD:=x.oD } h hy
  have Qc:=kx e2 (bI hf hy.flat) (.v _)
  have QO:=h.fl
  cases B
  all_goals
   simp only[ZG,seval,Bool.false_and,Prod.mk.injEq,Jm,g1,g9,LM,dT,bt g0,bf k2,bf k3,bt k4,Qc,Af,Ag,Ew,Ey];exact⟨_,bX rfl (by simp only[E8,seval]<;>rfl) (by first|exact .v _|simp only[dU]),_,rfl⟩
 by_cases k5:x.kind=5
 ·have hy:oS { yO with kind:=x.kind,table:=x.table }:=⟨z.Fk,z.c1,z.c2,h.SO,z.rb,z.ra,z.rs,h.rt,z.rv⟩
  obtain⟨r2,e2,B,rfl⟩:=SP x { yO with kind:=x.kind,table:=x.table } h hy
  have Qc:=kx e2 (bI hf hy.flat) (.v _)
  have QO:=h.fl
  cases B
  all_goals
   simp only[ZG,seval,Bool.false_and,Prod.mk.injEq,Jm,g1,g9,LM,dT,bt g0,bf k2,bf k3,bf k4,bt k5,Qc,Af,Ag,Ew,Ey];exact⟨_,bX rfl (by simp only[E8,seval]<;>rfl) (by first|exact .v _|simp only[dU]),_,rfl⟩
 by_cases k6:x.kind=6
 ·have hy:oS { yO with kind:=x.kind,verdict:=x.verdict }:=⟨z.Fk,z.c1,z.c2,z.SO,z.rb,z.ra,z.rs,z.rt,h.rv⟩
  obtain⟨r2,e2,B,rfl⟩:=SP x { yO with kind:=x.kind,verdict:=x.verdict } h hy
  have Qc:=kx e2 (bI hf hy.flat) (.v _)
  have QO:=h.fl
  cases B
  all_goals
   simp only[ZG,seval,Bool.false_and,Prod.mk.injEq,Jm,g1,g9,LM,dT,bt g0,bf k2,bf k3,bf k4,bf k5,bt k6,Qc,Af,Ag,Ew,Ey];exact⟨_,bX rfl (by simp only[E8,seval]<;>rfl) (by first|exact .v _|simp only[dU]),_,rfl⟩
 by_cases k8:x.kind=8
 ·have hy:oS { yO with kind:=x.kind,write:=x.write,pW:=x.pW }:=⟨z.Fk,z.c1,z.c2,z.SO,z.rb,z.ra,z.rs,z.rt,z.rv⟩
  obtain⟨r2,e2,B,rfl⟩:=SP x { yO with kind:=x.kind,write:=x.write,pW:=x.pW } h hy
  have Qc:=kx e2 (bI hf hy.flat) (.v _)
  have QO:=h.fl
  cases B
  all_goals
   simp only[ZG,seval,Bool.false_and,Prod.mk.injEq,Jm,g1,g9,LM,dT,bt g0,bf k2,bf k3,bf k4,bf k5,bf k6,bt k8,Qc,Af,Ag,Ew,Ey];exact⟨_,bX rfl (by simp only[E8,seval]<;>rfl) (by first|exact .v _|simp only[dU]),_,rfl⟩
 have hy:oS { yO with kind:=x.kind }:=⟨z.Fk,z.c1,z.c2,z.SO,z.rb,z.ra,z.rs,z.rt,z.rv⟩
 obtain⟨r2,e2,B,rfl⟩:=SP x { yO with kind:=x.kind } h hy
 have Qc:=kx e2 (bI hf hy.flat) (.v _)
 have QO:=h.fl
 cases B
 all_goals
  simp only[ZG,seval,Bool.false_and,Prod.mk.injEq,Jm,g1,g9,LM,dT,bt g0,bf k2,bf k3,bf k4,bf k5,bf k6,bf k8,Qc,Af,Ag,Ew,Ey];exact⟨_,bX rfl (by simp only[E8,seval]<;>rfl) (by first|exact .v _|simp only[dU]),_,rfl⟩
theorem x45 (n bits:Int) (h0:0<n) (h1:n≤1000):∃r,aD Tryz.prog 45 [.v (.int .i64 n),.v (.int .i64 bits)]=some r∧∃l:List Int,r=.uniq 3 1 l.length (aJ l)∧(l.length:Int)≤n:=by
 rw[cL Tryz.func45 rfl aOS rfl];simp only[Z8,seval];refine cM (fun m st=>∃k:Nat,(st.env 0=.v (.int .i64 n)∧st.env 1=.v (.int .i64 bits)∧st.env 6=.v (.int .i64 k))∧(st.env 5=.v (.slice none 0 0)∨∃(l:List Int) (g:Nat),(st.env 5=.own 21 g∧st.heap 21 g=some (.row 3 1 l.length (aJ l)))∧g<st.aO 21∧0<l.length∧l.length≤k)∧(k:Int)≤n∧m=(n-k).toNat)
  (fun e st=>e=.exit 0∧st.env 0=.v (.int .i64 n)∧(st.env 5=.v (.slice none 0 0)∨∃(l:List Int) (g:Nat),(st.env 5=.own 21 g∧st.heap 21 g=some (.row 3 1 l.length (aJ l)))∧0<l.length∧(l.length:Int)≤n)) n.toNat ?step ?start ?rest
 case step =>
  rintro m st ⟨k,hI,h5,hk,hm⟩
  by_cases bA:(k:Int)<n
  ·have q0:(0:Int)≤k:=by omega
   have hw:IntKind.i64.wrap ((k:Int)+1)=((k+1:Nat):Int):=by rw[pV _ (by omega) (by omega)];omega
   by_cases hh:IntKind.i64.wrap ((BitVec.ofInt IntKind.i64.bits (bits.fdiv (2 ^ min (IntKind.u64.wrap (k:Int)).toNat IntKind.i64.bits)) &&& BitVec.ofInt IntKind.i64.bits 1).toNat:Int)=1
   ·rcases h5 with h5|⟨l,g,h5,hg,hl0,hl⟩
    ·apply oN ((n-((k+1:Nat):Int)).toNat)
     ·simp only[Z8,seval,hI,h5,bA,q0,wN,bt hh,hw];rfl
     ·exact⟨k+1,by simp only[E8,seval,hI],.inr ⟨[(k:Int)],_,⟨by simp only[E8,seval]<;>rfl,by simp only[E8,seval]<;>rfl⟩,by simp only[E8,seval]<;>omega,by simp,by simp⟩,by omega,rfl⟩
    ·have uD:(g=st.aO 21)=False:=eq_false (by omega)
     have nl:(l.length:Int)<1000000:=by omega
     apply oN ((n-((k+1:Nat):Int)).toNat)
     ·simp only[Z8,seval,hI,h5,uD,bA,q0,wN,bt hh,hw,Dy _ _ _ _ nl];rfl
     ·exact⟨k+1,by simp only[E8,seval,hI],.inr ⟨l++[(k:Int)],_,⟨by simp only[E8,seval]<;>rfl,by simp only[E8,seval]<;>rfl⟩,by simp only[E8,seval]<;>omega,by simp,by rw[List.length_append,List.length_cons,List.length_nil];omega⟩,by omega,rfl⟩
   ·have h5':st.env 5=.v (.slice none 0 0)∨∃(l:List Int) (g:Nat),(st.env 5=.own 21 g∧st.heap 21 g=some (.row 3 1 l.length (aJ l)))∧g<st.aO 21∧0<l.length∧l.length≤k+1:=h5.imp id fun ⟨l,g,a,b,c,d⟩=>⟨l,g,a,b,c,by omega⟩
    apply oN ((n-((k+1:Nat):Int)).toNat)
    ·simp only[Z8,seval,hI,bA,q0,wN,bf hh,hw];rfl
    ·exact⟨k+1,by simp only[E8,seval,hI],by simpa only[E8,seval] using h5',by omega,rfl⟩
  ·have h5':st.env 5=.v (.slice none 0 0)∨∃(l:List Int) (g:Nat),(st.env 5=.own 21 g∧st.heap 21 g=some (.row 3 1 l.length (aJ l)))∧0<l.length∧(l.length:Int)≤n:=h5.imp id fun ⟨l,g,a,b,c,d⟩=>⟨l,g,a,c,by omega⟩
   apply oT (.exit 0)
   ·simp only[Z8,seval,hI,bA];rfl
   ·exact⟨rfl,by simp only[E8,seval,hI],by simpa only[E8,seval] using h5'⟩
 case start=>exact⟨0,by simp only[E8,seval]<;>rfl,.inl (by simp only[E8,seval]),by omega,by simp⟩
 case rest =>
  rintro e st ⟨rfl,h0',h5|⟨l,g,h5,hl0,hl⟩⟩
  ·simp only[Z8,seval,h0',h5,h0];exact⟨_,Wj (n:=([0]:List Int).length) (cs:=aJ [0]) (aI (by decide)) (.inl rfl) rfl (by simp only[E8,seval]<;>rfl) (by simp only[E8,seval]<;>rfl) (fG _),_,rfl,by simp;omega⟩
  ·have hn0:¬((l.length:Int)=0):=by omega
   simp only[Z8,seval,h0',h5,bf hn0];exact⟨_,rP rfl (by simp only[E8,seval,h5]<;>rfl) (by simp only[E8,seval,h5]<;>rfl) (fG _),l,rfl,hl⟩
theorem k45 (n bits:Int) (h0:0<n) (h1:n≤1000):∃l:List Int,(∀(st:St) (d:Nat),aP (aD Tryz.prog) 45 [.v (.int .i64 n),.v (.int .i64 bits)] st (some d)=some { dst:=some d,val:=.own d (st.aO d),new:=some (d,[.row 3 1 l.length (aJ l)])})∧(l.length:Int)≤n:=by
 obtain⟨r,hr,l,rfl,hl⟩:=x45 n bits h0 h1
 exact⟨l,fun st d=>iW (bI (.v _) (.v _)) hr,hl⟩
theorem x92 {s:aN} {v:SV} {q:Int} (h:GI s v q) (r:RG s v) (i e:Int) (he:Rg e):∃x,aD Tryz.prog 92 [.agg (aB s),.v (.int .i64 i),.v (.int .u64 e)]=some x∧∃c:fK,x=.agg (bV c)∧Rg c.aK:=by
 have L1:=JY v.ns h.up h.sd.nn i (IntKind.u64.wrap (e * s.cFg.qG))
 have hr:=DA h.up (i:=i) (s:=IntKind.u64.wrap (e * s.cFg.qG))
 obtain⟨k,hk⟩:∃k,EL v.ns i (IntKind.u64.wrap (e * s.cFg.qG))=k:=⟨_,rfl⟩
 rw[hk] at L1 hr
 rw[cL Tryz.func92 rfl aOV rfl];by_cases g1:k<0
 ·simp only[Z8,seval,h.sd.tree,L1,g1];exact⟨_,eU rfl (by simp only[E8,seval,Ad]<;>rfl) (by simp only[Z8,seval,Ad]<;>rfl) (by simp only[dU,and_self,Ad]),_,rfl,r.f⟩
 ·have k0:0≤k:=by omega
  have k1:k<v.ns.length:=by omega
  simp only[Z8,seval,h.sd.tree,L1,g1,k0,k1];exact⟨_,eU rfl (by simp only[E8,seval,Ad]<;>rfl) (by simp only[Z8,seval,Ad]<;>rfl) (by simp only[dU,and_self,Ad]),_,rfl,he⟩
theorem aOW (n:Int):∃x,aD Tryz.prog 111 [.v (.int .i64 n)]=some x∧∃w:rS,x=.agg (gI w):=by
 obtain⟨j,hj⟩:∃j,(IntKind.i64.wrap ((BitVec.ofInt IntKind.i64.bits (((n).fdiv (2 ^ min 9 IntKind.i64.bits))) &&& BitVec.ofInt IntKind.i64.bits 3).toNat:Int))=j:=⟨_,rfl⟩
 have hb:=Pn ((n).fdiv (2 ^ min 9 IntKind.i64.bits)) 3 (by decide)
 rw[hj] at hb;have j0:=hb.1
 have j1:j<4:=by omega
 have j3:j.toNat<4:=by omega
 have j4:j.toNat≤3:=by omega
 have Vh:∀(w:rS) (x:Int),dJ (gI w) j.toNat [.v (.int .u64 x)] (j.toNat+1)=gI (w.set j.toNat x):=fun w x=>qK w j.toNat _ x j3 rfl
 have fw:∀w:rS,Flat (.agg (gI w))=True:=fun w=>eq_true (.agg _ (iG w))
 rw[cL Tryz.func111 rfl aKw rfl];by_cases c1:(IntKind.i64.wrap ((BitVec.ofInt IntKind.i64.bits (((n).fdiv (2 ^ min 7 IntKind.i64.bits))) &&& BitVec.ofInt IntKind.i64.bits 3).toNat:Int))=1
 ·simp only[Z8,seval,bt c1,qK,Nat.reduceLT,Gl,hj,j0,j1,j4,Vh,Nat.mul_one,wN];exact⟨_,eU rfl (by simp only[E8,seval,fw]<;>rfl) (by simp only[Z8,seval,fw]<;>rfl) (by simp only[dU,and_self,fw]),_,rfl⟩
 by_cases c2:(IntKind.i64.wrap ((BitVec.ofInt IntKind.i64.bits (((n).fdiv (2 ^ min 7 IntKind.i64.bits))) &&& BitVec.ofInt IntKind.i64.bits 3).toNat:Int))=2
 ·simp only[Z8,seval,bf c1,bt c2,qK,Nat.reduceLT,Gl,hj,j0,j1,j4,Vh,Nat.mul_one,wN];exact⟨_,eU rfl (by simp only[E8,seval,fw]<;>rfl) (by simp only[Z8,seval,fw]<;>rfl) (by simp only[dU,and_self,fw]),_,rfl⟩
 by_cases c3:(IntKind.i64.wrap ((BitVec.ofInt IntKind.i64.bits (((n).fdiv (2 ^ min 7 IntKind.i64.bits))) &&& BitVec.ofInt IntKind.i64.bits 3).toNat:Int))=3
 ·simp only[Z8,seval,bf c1,bf c2,bt c3,qK,Nat.reduceLT,Gl,hj,j0,j1,j4,Vh,Nat.mul_one,wN];exact⟨_,eU rfl (by simp only[E8,seval,fw]<;>rfl) (by simp only[Z8,seval,fw]<;>rfl) (by simp only[dU,and_self,fw]),_,rfl⟩
 simp only[Z8,seval,bf c1,bf c2,bf c3,qK,Nat.reduceLT,Gl,hj,j0,j1,j4,Vh,Nat.mul_one,wN];exact⟨_,eU rfl (by simp only[E8,seval,fw]<;>rfl) (by simp only[Z8,seval,fw]<;>rfl) (by simp only[dU,and_self,fw]),_,rfl⟩
theorem aOX (n k:Int) (h0:0<n) (h1:n≤1000):∃r,aD Tryz.prog 182 [.v (.int .i64 n),.v (.int .i64 k)]=some r∧∃x:fN,r=.agg (bW x)∧vU x.first∧vU x.second∧Rg x.first.source∧Rg x.first.target∧Rg x.second.source∧Rg x.second.target:=by
 obtain⟨l,kl,hl⟩:=k45 n k h0 h1
 obtain⟨m,km,hm⟩:=k45 n ((k).fdiv (2 ^ min 6 IntKind.i64.bits)) h0 h1
 have cl:vU ⟨1,5,mkRoot 2,ov aJ (some l)⟩:=⟨some l,rfl,by show (l.length:Int)≤1000;omega⟩
 have rg:∀x:Int,0≤x∧x≤6→Rg x:=fun x h=>⟨by omega,by omega⟩
 have okl:∀a b r,vU ⟨a,b,r,ov aJ (some l)⟩:=fun a b r=>⟨some l,rfl,by show (l.length:Int)≤1000;omega⟩
 have okm:∀a b r,vU ⟨a,b,r,ov aJ (some m)⟩:=fun a b r=>⟨some m,rfl,by show (m.length:Int)≤1000;omega⟩
 rw[cL Tryz.func182 rfl aKy rfl];by_cases c0:((((k).fdiv (2 ^ min 12 IntKind.i64.bits))).tmod 8)=0
 ·simp only[Z8,seval,kl,km,Pp,bt c0];exact⟨_,by apply dY;rfl;all_goals simp only[aI,Z8,seval,bO,qX,uV,bC,cE,jL,dU]<;>rfl,_,rfl,okm _ _ _,okl _ _ _,rg _ (by dsimp only;omega),rg _ (by dsimp only;omega),rg _ (by dsimp only;omega),rg _ (by dsimp only;omega)⟩
 by_cases c1:((((k).fdiv (2 ^ min 12 IntKind.i64.bits))).tmod 8)=1
 ·simp only[Z8,seval,kl,km,Pp,bf c0,bt c1];exact⟨_,by apply dY;rfl;all_goals simp only[aI,Z8,seval,bO,qX,uV,bC,cE,jL,dU]<;>rfl,_,rfl,okl _ _ _,okm _ _ _,rg _ (by dsimp only;omega),rg _ (by dsimp only;omega),rg _ (by dsimp only;omega),rg _ (by dsimp only;omega)⟩
 by_cases c2:((((k).fdiv (2 ^ min 12 IntKind.i64.bits))).tmod 8)=2
 ·simp only[Z8,seval,kl,km,Pp,bf c0,bf c1,bt c2];exact⟨_,by apply dY;rfl;all_goals simp only[aI,Z8,seval,bO,qX,uV,bC,cE,jL,dU]<;>rfl,_,rfl,okl _ _ _,okl _ _ _,rg _ (by dsimp only;omega),rg _ (by dsimp only;omega),rg _ (by dsimp only;omega),rg _ (by dsimp only;omega)⟩
 by_cases c3:((((k).fdiv (2 ^ min 12 IntKind.i64.bits))).tmod 8)=3
 ·simp only[Z8,seval,kl,km,Pp,bf c0,bf c1,bf c2,bt c3];exact⟨_,by apply dY;rfl;all_goals simp only[aI,Z8,seval,bO,qX,uV,bC,cE,jL,dU]<;>rfl,_,rfl,okl _ _ _,okm _ _ _,rg _ (by dsimp only;omega),rg _ (by dsimp only;omega),rg _ (by dsimp only;omega),rg _ (by dsimp only;omega)⟩
 by_cases c4:((((k).fdiv (2 ^ min 12 IntKind.i64.bits))).tmod 8)=4
 ·simp only[Z8,seval,kl,km,Pp,bf c0,bf c1,bf c2,bf c3,bt c4];exact⟨_,by apply dY;rfl;all_goals simp only[aI,Z8,seval,bO,qX,uV,bC,cE,jL,dU]<;>rfl,_,rfl,okl _ _ _,okm _ _ _,rg _ (by dsimp only;omega),rg _ (by dsimp only;omega),rg _ (by dsimp only;omega),rg _ (by dsimp only;omega)⟩
 simp only[Z8,seval,kl,km,Pp,bf c0,bf c1,bf c2,bf c3,bf c4];exact⟨_,by apply dY;rfl;all_goals simp only[aI,Z8,seval,bO,qX,uV,bC,cE,jL,dU]<;>rfl,_,rfl,okl _ _ _,okm _ _ _,rg _ (by dsimp only;omega),rg _ (by dsimp only;omega),rg _ (by dsimp only;omega),rg _ (by dsimp only;omega)⟩
theorem aOY {s:aN} {v:SV} {q:Int} (h:GI s v q) (r:RG s v) (hB:0<(ol v.B).length∧(ol v.B).length≤64) (k:Int) (hk:0≤k):∃x,aD Tryz.prog 183 [.agg (aB s),.v (.int .i64 k)]=some x∧∃(t:Table) (b:List Int),x=.agg (cN t)∧t.jH=ov bD (some b)∧(b.length:Int)≤1000∧(∀y∈b,Rg y)∧Rg t.ck.aK:=by
 have hn:=h.sd.nn
 have hp:(0:Int)<(v.ns.length:Int):=by have:=h.pos;omega
 have gN:¬((v.ns.length:Int)=0):=by omega
 obtain⟨m1,m2⟩:=eC (n:=(v.ns.length:Int)) hk hp
 obtain⟨i,hi⟩:∃i,k.tmod (v.ns.length:Int)=i:=⟨_,rfl⟩
 rw[hi] at m1 m2;have Lz:=h.sp
 obtain⟨y,hy,c2,rfl,rc2⟩:=x92 h r i (Dg s s.now) (jM _)
 unfold Dg at hy;have Qd:=kx hy (mC h.sd.flat (.v _) (.v _)) (.agg _ (dA _))
 have rc1:Rg (nd v.ns i).block.dN.pj.aK:=(r.nd _ (FD m1 m2)).1.pj
 rw[cL Tryz.func183 rfl aKz rfl];by_cases c0:((((k).fdiv (2 ^ min 5 IntKind.i64.bits))).tmod 4)=0
 case neg =>
  simp only[Z8,seval,h.sd.tree,gN,hi,m1,m2,bf c0];refine cM (fun m st=>∃(j:Nat) (X:AV) (L:List Int),(st.env 1=.v (.int .i64 k)∧st.env 2=.ptr 2 0 0∧st.heap 2 0=some (.cells (aB s))∧st.env 4=.ptr 4 0 0∧st.heap 4 0=some (.cells (cN iS))∧st.env 6=.ptr 6 0 0∧st.heap 6 0=some (.cells (cN ⟨(nd v.ns i).block.dN.pj,X⟩))∧st.env 7=.v (.int .i64 j))∧((X=.v (.slice none 0 0)∧L=[])∨∃g,X=.own 55 g∧g<st.aO 55∧st.heap 55 g=some (.row 23 1 L.length (bD L)))∧(∀y∈L,Rg y)∧L.length=j∧j≤(ol v.B).length∧m=(ol v.B).length-j)
   (fun e st=>e=.exit 0∧∃(g:Nat) (L:List Int),(st.env 1=.v (.int .i64 k)∧st.env 2=.ptr 2 0 0∧st.heap 2 0=some (.cells (aB s))∧st.env 4=.ptr 4 0 0∧st.heap 4 0=some (.cells (cN iS))∧st.env 6=.ptr 6 0 0∧st.heap 6 0=some (.cells (cN ⟨(nd v.ns i).block.dN.pj,.own 55 g⟩))∧st.heap 55 g=some (.row 23 1 L.length (bD L)))∧(∀y∈L,Rg y)∧L.length=(ol v.B).length) (ol v.B).length ?step ?start ?rest
  case step =>
   rintro m st ⟨j,X,L,hI,hX,hL,hj,hjB,hm⟩
   by_cases bA:(j:Int)<(ol v.B).length
   ·have q0:(0:Int)≤j:=by omega
    have hw:IntKind.i64.wrap ((j:Int)+1)=((j+1:Nat):Int):=by rw[pV _ (by omega) (by omega)];omega
    have nL:(L.length:Int)<1000000:=by omega
    obtain⟨y,hy9⟩:∃y,IntKind.u64.wrap ((k.fdiv (2 ^ min (IntKind.u64.wrap (j:Int)).toNat IntKind.i64.bits)).tmod 50)=y:=⟨_,rfl⟩
    have ry:Rg y:=by rw[← hy9];exact jM _
    have Zv:∀z∈L++[y],Rg z:=fun z hz=>(List.mem_append.1 hz).elim (hL z) fun e=>by rw[List.mem_singleton] at e;rw[e];exact ry
    have Pl:(L++[y]).length=j+1:=by rw[List.length_append,List.length_cons,List.length_nil];omega
    rcases hX with ⟨rfl,rfl⟩|⟨g,rfl,hg,hh⟩
    ·apply oN ((ol v.B).length-(j+1))
     ·simp only[Z8,seval,hI,bA,q0,h.sd.jH,wN,hy9,hw];rfl
     ·exact⟨j+1,_,[]++[y],⟨by simp only[E8,seval,hI],by simp only[E8,seval,hI],by simp only[E8,seval,hI],by simp only[E8,seval,hI],by simp only[E8,seval,hI],by simp only[E8,seval,hI],by simp only[E8,seval,hI]<;>rfl,by simp only[E8,seval]⟩,.inr ⟨_,rfl,by simp only[E8,seval]<;>omega,by simp only[E8,seval]<;>rfl⟩,Zv,Pl,by omega,rfl⟩
    ·have uD:(g=st.aO 55)=False:=eq_false (by omega)
     apply oN ((ol v.B).length-(j+1))
     ·simp only[Z8,seval,hI,hh,uD,bA,q0,h.sd.jH,wN,hy9,hw,xB _ _ _ _ nL];rfl
     ·exact⟨j+1,_,L++[y],⟨by simp only[E8,seval,hI],by simp only[E8,seval,hI],by simp only[E8,seval,hI],by simp only[E8,seval,hI],by simp only[E8,seval,hI],by simp only[E8,seval,hI],by simp only[E8,seval,hI]<;>rfl,by simp only[E8,seval]⟩,.inr ⟨_,rfl,by simp only[E8,seval]<;>omega,by simp only[E8,seval]<;>rfl⟩,Zv,Pl,by omega,rfl⟩
   ·rcases hX with ⟨rfl,rfl⟩|⟨g,rfl,hg,hh⟩
    ·simp at hj;omega
    ·apply oT (.exit 0)
     ·simp only[Z8,seval,hI,bA,h.sd.jH];rfl
     ·exact⟨rfl,g,L,by simp only[E8,seval,hI,hh],hL,by omega⟩
  case start=>exact⟨0,_,[],by and_intros<;>(simp only[E8,seval]<;>rfl),.inl ⟨rfl,rfl⟩,by simp,rfl,by omega,by omega⟩
  case rest =>
   rintro e st ⟨rfl,g,L,hI,hL,hlL⟩
   have nL:(L.length:Int)<1000000:=by omega
   by_cases d0:((((k).fdiv (2 ^ min 12 IntKind.i64.bits))).tmod 16)=0
   ·have Zv:∀z∈L++[(1:Int)],Rg z:=fun z hz=>(List.mem_append.1 hz).elim (hL z) fun e=>by rw[List.mem_singleton] at e;rw[e];exact⟨by omega,by omega⟩
    simp only[Z8,seval,hI,bt d0,xB _ _ _ _ nL];exact⟨_,by apply dY;rfl;all_goals simp only[aI,Z8,seval,hI,bO,sR,bC,uS,dU]<;>rfl,⟨(nd v.ns i).block.dN.pj,_⟩,L++[1],rfl,rfl,by rw[List.length_append,List.length_cons,List.length_nil];omega,Zv,rc1⟩
   by_cases d1:((((k).fdiv (2 ^ min 12 IntKind.i64.bits))).tmod 16)=1
   ·have z0:(0:Int)≤0:=by omega
    have z1:(0:Int)<(L.length:Int):=by omega
    have z2:0<L.length:=by omega
    have z3:1≤L.length:=z2
    have Zv:∀z∈L.set 0 4611686018427387904,Rg z:=fun z hz=>(List.mem_or_eq_of_mem_set hz).elim (hL z) fun e=>by rw[e];exact⟨by omega,by omega⟩
    have tX:dJ (bD L) 0 [.v (.int .u64 4611686018427387904)] 1=bD (L.set 0 4611686018427387904):=by
     cases L with
     | nil=>simp at z2
     | cons a L=>simp[dJ,bD,rV]
    simp only[Z8,seval,hI,bf d0,bt d1,z0,z1,z3,tX,Int.toNat_zero,Nat.zero_mul];exact⟨_,by apply dY;rfl;all_goals simp only[aI,Z8,seval,hI,bO,sR,bC,uS,dU]<;>rfl,⟨(nd v.ns i).block.dN.pj,_⟩,L.set 0 4611686018427387904,rfl,by simp only[ov,List.length_set],by rw[List.length_set];omega,Zv,rc1⟩
   simp only[Z8,seval,hI,bf d0,bf d1];exact⟨_,by apply dY;rfl;all_goals simp only[aI,Z8,seval,hI,bO,sR,bC,uS,dU]<;>rfl,⟨(nd v.ns i).block.dN.pj,_⟩,L,rfl,rfl,by omega,hL,rc1⟩
 simp only[Z8,seval,h.sd.tree,gN,hi,m1,m2,bt c0,Lz,Qd];refine cM (fun m st=>∃(j:Nat) (X:AV) (L:List Int),(st.env 1=.v (.int .i64 k)∧st.env 2=.ptr 2 0 0∧st.heap 2 0=some (.cells (aB s))∧st.env 4=.ptr 4 0 0∧st.heap 4 0=some (.cells (cN iS))∧st.env 6=.ptr 6 0 0∧st.heap 6 0=some (.cells (cN ⟨c2,X⟩))∧st.env 7=.v (.int .i64 j))∧((X=.v (.slice none 0 0)∧L=[])∨∃g,X=.own 55 g∧g<st.aO 55∧st.heap 55 g=some (.row 23 1 L.length (bD L)))∧(∀y∈L,Rg y)∧L.length=j∧j≤(ol v.B).length∧m=(ol v.B).length-j)
  (fun e st=>e=.exit 0∧∃(g:Nat) (L:List Int),(st.env 1=.v (.int .i64 k)∧st.env 2=.ptr 2 0 0∧st.heap 2 0=some (.cells (aB s))∧st.env 4=.ptr 4 0 0∧st.heap 4 0=some (.cells (cN iS))∧st.env 6=.ptr 6 0 0∧st.heap 6 0=some (.cells (cN ⟨c2,.own 55 g⟩))∧st.heap 55 g=some (.row 23 1 L.length (bD L)))∧(∀y∈L,Rg y)∧L.length=(ol v.B).length) (ol v.B).length ?step ?start ?rest
 case step =>
  rintro m st ⟨j,X,L,hI,hX,hL,hj,hjB,hm⟩
  by_cases bA:(j:Int)<(ol v.B).length
  ·have q0:(0:Int)≤j:=by omega
   have hw:IntKind.i64.wrap ((j:Int)+1)=((j+1:Nat):Int):=by rw[pV _ (by omega) (by omega)];omega
   have nL:(L.length:Int)<1000000:=by omega
   obtain⟨y,hy9⟩:∃y,IntKind.u64.wrap ((k.fdiv (2 ^ min (IntKind.u64.wrap (j:Int)).toNat IntKind.i64.bits)).tmod 50)=y:=⟨_,rfl⟩
   have ry:Rg y:=by rw[← hy9];exact jM _
   have Zv:∀z∈L++[y],Rg z:=fun z hz=>(List.mem_append.1 hz).elim (hL z) fun e=>by rw[List.mem_singleton] at e;rw[e];exact ry
   have Pl:(L++[y]).length=j+1:=by rw[List.length_append,List.length_cons,List.length_nil];omega
   rcases hX with ⟨rfl,rfl⟩|⟨g,rfl,hg,hh⟩
   ·apply oN ((ol v.B).length-(j+1))
    ·simp only[Z8,seval,hI,bA,q0,h.sd.jH,wN,hy9,hw];rfl
    ·exact⟨j+1,_,[]++[y],⟨by simp only[E8,seval,hI],by simp only[E8,seval,hI],by simp only[E8,seval,hI],by simp only[E8,seval,hI],by simp only[E8,seval,hI],by simp only[E8,seval,hI],by simp only[E8,seval,hI]<;>rfl,by simp only[E8,seval]⟩,.inr ⟨_,rfl,by simp only[E8,seval]<;>omega,by simp only[E8,seval]<;>rfl⟩,Zv,Pl,by omega,rfl⟩
   ·have uD:(g=st.aO 55)=False:=eq_false (by omega)
    apply oN ((ol v.B).length-(j+1))
    ·simp only[Z8,seval,hI,hh,uD,bA,q0,h.sd.jH,wN,hy9,hw,xB _ _ _ _ nL];rfl
    ·exact⟨j+1,_,L++[y],⟨by simp only[E8,seval,hI],by simp only[E8,seval,hI],by simp only[E8,seval,hI],by simp only[E8,seval,hI],by simp only[E8,seval,hI],by simp only[E8,seval,hI],by simp only[E8,seval,hI]<;>rfl,by simp only[E8,seval]⟩,.inr ⟨_,rfl,by simp only[E8,seval]<;>omega,by simp only[E8,seval]<;>rfl⟩,Zv,Pl,by omega,rfl⟩
  ·rcases hX with ⟨rfl,rfl⟩|⟨g,rfl,hg,hh⟩
   ·simp at hj;omega
   ·apply oT (.exit 0)
    ·simp only[Z8,seval,hI,bA,h.sd.jH];rfl
    ·exact⟨rfl,g,L,by simp only[E8,seval,hI,hh],hL,by omega⟩
 case start=>exact⟨0,_,[],by and_intros<;>(simp only[E8,seval]<;>rfl),.inl ⟨rfl,rfl⟩,by simp,rfl,by omega,by omega⟩
 case rest =>
  rintro e st ⟨rfl,g,L,hI,hL,hlL⟩
  have nL:(L.length:Int)<1000000:=by omega
  by_cases d0:((((k).fdiv (2 ^ min 12 IntKind.i64.bits))).tmod 16)=0
  ·have Zv:∀z∈L++[(1:Int)],Rg z:=fun z hz=>(List.mem_append.1 hz).elim (hL z) fun e=>by rw[List.mem_singleton] at e;rw[e];exact⟨by omega,by omega⟩
   simp only[Z8,seval,hI,bt d0,xB _ _ _ _ nL];exact⟨_,by apply dY;rfl;all_goals simp only[aI,Z8,seval,hI,bO,sR,bC,uS,dU]<;>rfl,⟨c2,_⟩,L++[1],rfl,rfl,by rw[List.length_append,List.length_cons,List.length_nil];omega,Zv,rc2⟩
  by_cases d1:((((k).fdiv (2 ^ min 12 IntKind.i64.bits))).tmod 16)=1
  ·have z0:(0:Int)≤0:=by omega
   have z1:(0:Int)<(L.length:Int):=by omega
   have z2:0<L.length:=by omega
   have z3:1≤L.length:=z2
   have Zv:∀z∈L.set 0 4611686018427387904,Rg z:=fun z hz=>(List.mem_or_eq_of_mem_set hz).elim (hL z) fun e=>by rw[e];exact⟨by omega,by omega⟩
   have tX:dJ (bD L) 0 [.v (.int .u64 4611686018427387904)] 1=bD (L.set 0 4611686018427387904):=by
    cases L with
    | nil=>simp at z2
    | cons a L=>simp[dJ,bD,rV]
   simp only[Z8,seval,hI,bf d0,bt d1,z0,z1,z3,tX,Int.toNat_zero,Nat.zero_mul];exact⟨_,by apply dY;rfl;all_goals simp only[aI,Z8,seval,hI,bO,sR,bC,uS,dU]<;>rfl,⟨c2,_⟩,L.set 0 4611686018427387904,rfl,by simp only[ov,List.length_set],by rw[List.length_set];omega,Zv,rc2⟩
  simp only[Z8,seval,hI,bf d0,bf d1];exact⟨_,by apply dY;rfl;all_goals simp only[aI,Z8,seval,hI,bO,sR,bC,uS,dU]<;>rfl,⟨c2,_⟩,L,rfl,rfl,by omega,hL,rc2⟩
structure TD (t:State) (v:SV) (Q R:Option (List Request)):Prop where
 sd:SD t.store v
 Ak:t.cW=ov aA Q
 ret:t.nA=ov aA R
 nQ:((ol Q).length:Int)<900000
 nR:((ol R).length:Int)<900000
theorem TD.fl {t:State} {v:SV} {Q R:Option (List Request)} (h:TD t v Q R):Flat t.store.cFg.jH∧Flat t.store.fY.dR∧Flat t.store.fY.gZ∧Flat t.store.dQ.early∧Flat t.store.dQ.bY∧Flat t.store.tree.nodes∧Flat t.store.tables∧Flat t.cW∧Flat t.nA:=by
 obtain⟨h1,h2,h3,h4,h5,h6,h7⟩:=h.sd.fl
 exact⟨h1,h2,h3,h4,h5,h6,h7,by rw[h.Ak];exact fO Q,by rw[h.ret];exact fO R⟩
theorem TD.flat {t:State} {v:SV} {Q R:Option (List Request)} (h:TD t v Q R):Flat (.agg (aF t)):=(qD t).2 h.fl
def qL (ns:List Node) (r:cC):Prop:=0≤aM ns r∧(nd ns (aM ns r)).status=0
theorem c85 {t:State} {v:SV} {Q R:Option (List Request)} (h:TD t v Q R) (r:cC):aD Tryz.prog 85 [.agg (aF t),.agg (aV r)]=some (.v (.bool (decide (qL v.ns r)))):=by
 have hr:=fB v.ns r
 rw[cL Tryz.func85 rfl aO2 rfl];refine lM ?_
 by_cases g1:0≤aM v.ns r
 ·by_cases g2:(nd v.ns (aM v.ns r)).status=0
  ·simp only[Z8,seval,h.sd.tree,mA _ _ h.sd.nn,g1,hr.2,bt g2];exact⟨_,bX rfl (by simp only[E8,seval]<;>rfl) (by first|exact .v _|simp only[dU]),by simp[qL,g1,g2]⟩
  ·simp only[Z8,seval,h.sd.tree,mA _ _ h.sd.nn,g1,hr.2,bf g2];exact⟨_,bX rfl (by simp only[E8,seval]<;>rfl) (by first|exact .v _|simp only[dU]),by simp[qL,g1,g2]⟩
 ·simp only[Z8,seval,h.sd.tree,mA _ _ h.sd.nn,g1];exact⟨_,bX rfl (by simp only[E8,seval]<;>rfl) (by first|exact .v _|simp only[dU]),by simp[qL,g1]⟩
theorem k85 {t:State} {v:SV} {Q R:Option (List Request)} (h:TD t v Q R) (r:cC) (st:St) (d:Option Nat):aP (aD Tryz.prog) 85 [.agg (aF t),.agg (aV r)] st d=some { dst:=d,val:=.v (.bool (decide (qL v.ns r)))}:=kx (c85 h r) (bI h.flat (pZ r)) (.v _) st d
def aE9 (t:State) (L:List Request) (r:cC) (n:Int):State:={ t with cW:=ov aA (some (L++[⟨⟨t.bE⟩,r,n,0⟩])),bE:=IntKind.u64.wrap (t.bE+1)}
theorem c86 {t:State} {v:SV} {Q R:Option (List Request)} (h:TD t v Q R) (r:cC) (n:Int):aD Tryz.prog 86 [.agg (aF t),.agg (aV r),.v (.int .i64 n)]=some (.agg (aF (aE9 t (ol Q) r n))):=by
 have lO:=h.fl
 have nq:((ol Q).length:Int)<1000000:=by have:=h.nQ;omega
 rw[cL Tryz.func86 rfl aO3 rfl];refine lM ?_
 simp only[Z8,seval,h.Ak,qM _ nq,oG _ _ _ _ nq];exact⟨_,by apply dY;rfl;all_goals simp only[aI,Z8,seval,lO,bO,uW,gB,bC,cE,oU,dU]<;>rfl,rfl⟩
noncomputable def oV (ns:List Node) (l:List Request):List Request:=l.filter fun r=>decide (0≤aM ns r.block)
theorem c91 {t:State} {v:SV} {Q R:Option (List Request)} (h:TD t v Q R) (o:Option (List Request)) (hn:((ol o).length:Int)<1000000):aD Tryz.prog 91 [.agg (aF t),ov aA o]=some (Mv 63 35 aA (oV v.ns (ol o))):=by
 rw[cL Tryz.func91 rfl aO4 (by cases o<;>rfl)]
 refine lM ?_
 simp only[Z8,seval];refine cM (fun m st=>∃k:Nat,(st.env 2=.ptr 2 0 0∧st.heap 2 0=some (.cells (aF t))∧st.env 1=ov aA o∧st.env 6=.v (.int .i64 k))∧(((((ol o).take k).filter (fun r=>decide (0≤aM v.ns r.block)))=[]∧st.env 5=.v (.slice none 0 0))∨((((ol o).take k).filter (fun r=>decide (0≤aM v.ns r.block)))≠[]∧∃g,st.env 5=.own 29 g∧g<st.aO 29∧st.heap 29 g=some (.row 63 35 (((ol o).take k).filter (fun r=>decide (0≤aM v.ns r.block))).length (aA (((ol o).take k).filter (fun r=>decide (0≤aM v.ns r.block)))))))∧k≤(ol o).length∧m=(ol o).length-k)
  (fun e st=>e=.exit 0∧(((((ol o).take (ol o).length).filter (fun r=>decide (0≤aM v.ns r.block)))=[]∧st.env 5=.v (.slice none 0 0))∨((((ol o).take (ol o).length).filter (fun r=>decide (0≤aM v.ns r.block)))≠[]∧∃g,st.env 5=.own 29 g∧g<st.aO 29∧st.heap 29 g=some (.row 63 35 (((ol o).take (ol o).length).filter (fun r=>decide (0≤aM v.ns r.block))).length (aA (((ol o).take (ol o).length).filter (fun r=>decide (0≤aM v.ns r.block)))))))∧st.env 2=.ptr 2 0 0∧st.heap 2 0=some (.cells (aF t))∧st.env 1=ov aA o) ((ol o).length) ?step ?start ?rest
 case step =>
  rintro m st ⟨k,hI,h5,hk,hm⟩
  have Df:(((((ol o).take k).filter (fun r=>decide (0≤aM v.ns r.block))).length:Nat):Int)<1000000:=by have:=List.length_filter_le (fun r=>decide (0≤aM v.ns r.block)) ((ol o).take k);have h2:=List.length_take_le' k (ol o);omega
  by_cases bA:(k:Int)<(ol o).length
  ·have q0:(0:Int)≤k:=by omega
   have hw:IntKind.i64.wrap ((k:Int)+1)=((k+1:Nat):Int):=by rw[pV _ (by omega) (by omega)];omega
   have hs:=xQ bJ (fun r=>decide (0≤aM v.ns r.block)) (ol o) k (by omega)
   by_cases hh:0≤aM v.ns (gx bJ (ol o) (k:Int)).block
   ·rw[if_pos (decide_eq_true hh)] at hs;rcases h5 with ⟨hy,h5⟩|⟨hy,g,h5⟩
    ·rw[hy] at hs;apply oN ((ol o).length-(k+1))
     ·simp only[Z8,seval,hI,h5,bA,hw,q0,h.sd.tree,mA _ _ h.sd.nn,hh];rfl
     ·exact⟨k+1,by simp only[E8,seval,hI],.inr ⟨by rw[hs];simp,_,by simp only[E8,seval]<;>rfl,(by simp only[E8,seval]<;>omega),(by rw[hs];simp only[E8,seval]<;>rfl)⟩,by omega,rfl⟩
    ·apply oN ((ol o).length-(k+1))
     ·simp only[Z8,seval,hI,h5,Df,bA,hw,q0,h.sd.tree,mA _ _ h.sd.nn,hh];rfl
     ·exact⟨k+1,by simp only[E8,seval,hI],.inr ⟨by rw[hs];simp,_,by simp only[E8,seval]<;>rfl,(by simp only[E8,seval]<;>omega),(by rw[hs];simp only[E8,seval]<;>rfl)⟩,by omega,rfl⟩
   ·rw[if_neg (by simpa using hh),List.append_nil] at hs
    apply oN ((ol o).length-(k+1))
    ·simp only[Z8,seval,hI,bA,hw,q0,h.sd.tree,mA _ _ h.sd.nn,hh];rfl
    ·exact⟨k+1,by simp only[E8,seval,hI],by rw[hs];simpa only[E8,seval] using h5,by omega,rfl⟩
  ·have De:k=(ol o).length:=by omega
   rw[De] at h5;apply oT (.exit 0)
   ·simp only[Z8,seval,hI,bA];rfl
   ·exact⟨rfl,by simpa only[E8,seval] using h5,by simp only[E8,seval,hI]⟩
 case start=>exact⟨0,by simp only[E8,seval]<;>rfl,.inl ⟨rfl,by simp only[E8,seval]⟩,by omega,by omega⟩
 case rest =>
  rintro e st ⟨rfl,⟨hy,h5⟩|⟨hy,g,h5,hg,xO⟩,hI⟩
  ·rw[List.take_length] at hy;rw[show Mv 63 35 aA (oV v.ns (ol o))=.v (.slice none 0 0) from if_pos hy];simp only[Z8,seval,h5];exact⟨_,bX rfl (by simp only[E8,seval,h5]<;>rfl) (by first|exact .v _|simp only[dU,h5]),rfl⟩
  ·rw[List.take_length] at hy xO;rw[show Mv 63 35 aA (oV v.ns (ol o))=.uniq 63 35 (oV v.ns (ol o)).length (aA (oV v.ns (ol o))) from if_neg hy];simp only[Z8,seval,h5];exact⟨_,rP rfl (by simp only[E8,seval,h5]<;>rfl) (by simp only[E8,seval,xO]<;>rfl) (gM _),rfl⟩
noncomputable def SQ (t:State) (v:SV) (Q R:Option (List Request)):State:={ t with cW:=ov aA (nz (oV v.ns (ol Q))),nA:=ov aA (nz (oV v.ns (ol R)))}
theorem c36 {t:State} {v:SV} {Q R:Option (List Request)} (h:TD t v Q R):aD Tryz.prog 36 [.agg (aF t)]=some (.agg (aF (SQ t v Q R))):=by
 have lO:=h.fl
 have hf:=h.flat
 have cQ:=c91 h Q (by have:=h.nQ;omega)
 have cR:=c91 h R (by have:=h.nR;omega)
 rw[cL Tryz.func36 rfl aO5 rfl];refine lM ?_
 by_cases e1:oV v.ns (ol Q)=[]
 ·rw[show Mv 63 35 aA (oV v.ns (ol Q))=.v (.slice none 0 0) from if_pos e1] at cQ;have z1:nz (oV v.ns (ol Q))=none:=if_pos e1
  have kQ:=kx cQ (bI hf (fO Q)) (.v _)
  by_cases e2:oV v.ns (ol R)=[]
  ·rw[show Mv 63 35 aA (oV v.ns (ol R))=.v (.slice none 0 0) from if_pos e2] at cR;have z2:nz (oV v.ns (ol R))=none:=if_pos e2
   have kR:=kx cR (bI hf (fO R)) (.v _)
   simp only[Z8,seval,h.Ak,h.ret,kQ,kR];exact⟨_,eU rfl (by simp only[E8,seval,lO]<;>rfl) (by simp only[Z8,seval,lO]<;>rfl) (by simp only[dU,and_self,lO]),by unfold SQ;rw[z1,z2];rfl⟩
  ·rw[show Mv 63 35 aA (oV v.ns (ol R))=.uniq 63 35 (oV v.ns (ol R)).length (aA (oV v.ns (ol R))) from if_neg e2] at cR;have z2:nz (oV v.ns (ol R))=some (oV v.ns (ol R)):=if_neg e2
   have kR:∀(st:St) (d:Nat),aP (aD Tryz.prog) 91 [.agg (aF t),ov aA R] st (some d)=_:=fun st d=>iW (st:=st) (d:=d) (bI hf (fO R)) cR
   simp only[Z8,seval,h.Ak,h.ret,kQ,kR];exact⟨_,by apply dY;rfl;all_goals simp only[aI,Z8,seval,lO,bO,uW,gB,bC,cE,oU,dU]<;>rfl,by unfold SQ;rw[z1,z2];rfl⟩
 ·rw[show Mv 63 35 aA (oV v.ns (ol Q))=.uniq 63 35 (oV v.ns (ol Q)).length (aA (oV v.ns (ol Q))) from if_neg e1] at cQ;have z1:nz (oV v.ns (ol Q))=some (oV v.ns (ol Q)):=if_neg e1
  have kQ:∀(st:St) (d:Nat),aP (aD Tryz.prog) 91 [.agg (aF t),ov aA Q] st (some d)=_:=fun st d=>iW (st:=st) (d:=d) (bI hf (fO Q)) cQ
  by_cases e2:oV v.ns (ol R)=[]
  ·rw[show Mv 63 35 aA (oV v.ns (ol R))=.v (.slice none 0 0) from if_pos e2] at cR;have z2:nz (oV v.ns (ol R))=none:=if_pos e2
   have kR:=kx cR (bI hf (fO R)) (.v _)
   simp only[Z8,seval,h.Ak,h.ret,kQ,kR];exact⟨_,by apply dY;rfl;all_goals simp only[aI,Z8,seval,lO,bO,uW,gB,bC,cE,oU,dU]<;>rfl,by unfold SQ;rw[z1,z2];rfl⟩
  ·rw[show Mv 63 35 aA (oV v.ns (ol R))=.uniq 63 35 (oV v.ns (ol R)).length (aA (oV v.ns (ol R))) from if_neg e2] at cR;have z2:nz (oV v.ns (ol R))=some (oV v.ns (ol R)):=if_neg e2
   have kR:∀(st:St) (d:Nat),aP (aD Tryz.prog) 91 [.agg (aF t),ov aA R] st (some d)=_:=fun st d=>iW (st:=st) (d:=d) (bI hf (fO R)) cR
   simp only[Z8,seval,h.Ak,h.ret,kQ,kR];exact⟨_,by apply dY;rfl;all_goals simp only[aI,Z8,seval,lO,bO,uW,gB,bC,cE,oU,dU]<;>rfl,by unfold SQ;rw[z1,z2];rfl⟩
theorem TD.drp {t:State} {v:SV} {Q R:Option (List Request)} (h:TD t v Q R):TD (SQ t v Q R) v (nz (oV v.ns (ol Q))) (nz (oV v.ns (ol R))):=by
 have h1:=List.length_filter_le (fun r:Request=>decide (0≤aM v.ns r.block)) (ol Q)
 have h2:=List.length_filter_le (fun r:Request=>decide (0≤aM v.ns r.block)) (ol R)
 refine⟨h.sd,rfl,rfl, ?_, ?_⟩
 ·rw[oE];have:=h.nQ;unfold oV;omega
 ·rw[oE];have:=h.nR;unfold oV;omega
noncomputable def DG (ns:List Node) (p:Option (List Request) × Int) (r:cC):Option (List Request) × Int:=if qL ns r then (some (ol p.1++[⟨⟨p.2⟩,r,0,0⟩]),IntKind.u64.wrap (p.2+1)) else p
noncomputable def Fm (ns:List Node) (p:Option (List Request) × Int) (l:List cC):Option (List Request) × Int:=l.foldl (DG ns) p
theorem Wk (ns:List Node) (a:Option (List Request) × Int) (l:List cC) (k:Nat) (h:k<l.length):Fm ns a (l.take (k+1))=DG ns (Fm ns a (l.take k)) (gx dI l k):=by
 unfold Fm;rw[List.take_succ_eq_append_getElem h,List.foldl_append];simp[gx,h]
def FK (t:State) (p:Option (List Request) × Int):State:={ t with cW:=ov aA p.1,bE:=p.2 }
theorem TD.FK {t:State} {v:SV} {Q R:Option (List Request)} (h:TD t v Q R) (p:Option (List Request) × Int) (hn:((ol p.1).length:Int)<900000):TD (FK t p) v p.1 R:=⟨h.sd,rfl,h.ret,hn,h.nR⟩
theorem aFa {t:State} {v:SV} {Q R:Option (List Request)} (h:TD t v Q R):Tryz.FK t (Q,t.bE)=t:=by unfold Tryz.FK;simp only;rw[← h.Ak]
theorem aBi (ns:List Node) (p:Option (List Request) × Int) (r:cC):(ol (DG ns p r).1).length≤(ol p.1).length+1:=by
 unfold DG;split
 ·show (ol p.1++[_]).length≤_;rw[List.length_append,List.length_cons,List.length_nil];omega
 ·omega
theorem FL (ns:List Node) (p:Option (List Request) × Int) (l:List cC):(ol (Fm ns p l).1).length≤(ol p.1).length+l.length:=by
 induction l generalizing p with
 | nil=>exact Nat.le_refl _
 | cons r l ih=>have h1:=ih (DG ns p r);have h2:=aBi ns p r;rw[List.length_cons];show (ol (Fm ns (DG ns p r) l).1).length≤_;omega
theorem c32 {t:State} {v:SV} {Q R:Option (List Request)} (h:TD t v Q R) (L:Option (List cC)) (hn:((ol Q).length:Int)+(ol L).length<800000):aD Tryz.prog 32 [.agg (aF t),ov eH L]=some (.agg (aF (Tryz.FK t (Fm v.ns (Q,t.bE) (ol L))))):=by
 have hT:∀k:Nat,k≤(ol L).length→TD (Tryz.FK t (Fm v.ns (Q,t.bE) ((ol L).take k))) v (Fm v.ns (Q,t.bE) ((ol L).take k)).1 R:=fun k hk=>h.FK _ (by
  have:=FL v.ns (Q,t.bE) ((ol L).take k);rw[List.length_take] at this;have e:ol (Q,t.bE).1=ol Q:=rfl;rw[e] at this;omega)
 rw[cL Tryz.func32 rfl aO6 (by cases L<;>rfl)]
 refine lM ?_
 simp only[Z8,seval];refine cM (fun m st=>∃k:Nat,(st.env 1=ov eH L∧st.env 2=.ptr 2 0 0∧st.heap 2 0=some (.cells (aF (Tryz.FK t (Fm v.ns (Q,t.bE) ((ol L).take k)))))∧st.env 4=.ptr 4 0 0∧st.heap 4 0=some (.cells (aF jF))∧st.env 5=.v (.int .i64 k))∧k≤(ol L).length∧m=(ol L).length-k)
  (fun e st=>e=.exit 0∧(st.env 2=.ptr 2 0 0∧st.heap 2 0=some (.cells (aF (Tryz.FK t (Fm v.ns (Q,t.bE) (ol L)))))∧st.env 4=.ptr 4 0 0∧st.heap 4 0=some (.cells (aF jF)))) (ol L).length ?step ?start ?rest
 case step =>
  rintro m st ⟨k,hI,hk,hm⟩
  by_cases bA:(k:Int)<(ol L).length
  ·have q0:(0:Int)≤k:=by omega
   have hw:IntKind.i64.wrap ((k:Int)+1)=((k+1:Nat):Int):=by rw[pV _ (by omega) (by omega)];omega
   have hs:=Wk v.ns (Q,t.bE) (ol L) k (by omega)
   have hTk:=hT k hk
   have n8:=k85 hTk (gx dI (ol L) (k:Int))
   by_cases g1:qL v.ns (gx dI (ol L) (k:Int))
   ·have SR:=hT (k+1) (by omega)
    have k86':=kx (c86 hTk (gx dI (ol L) (k:Int)) 0) (mC hTk.flat (pZ _) (.v _)) (by
     have:aE9 (Tryz.FK t (Fm v.ns (Q,t.bE) ((ol L).take k))) (ol (Fm v.ns (Q,t.bE) ((ol L).take k)).1) (gx dI (ol L) (k:Int)) 0=Tryz.FK t (Fm v.ns (Q,t.bE) ((ol L).take (k+1))):=by rw[hs,DG,if_pos g1];rfl
     rw[this];exact SR.flat)
    have he:aE9 (Tryz.FK t (Fm v.ns (Q,t.bE) ((ol L).take k))) (ol (Fm v.ns (Q,t.bE) ((ol L).take k)).1) (gx dI (ol L) (k:Int)) 0=Tryz.FK t (Fm v.ns (Q,t.bE) ((ol L).take (k+1))):=by rw[hs,DG,if_pos g1];rfl
    rw[he] at k86'
    apply oN ((ol L).length-(k+1))
    ·simp only[Z8,seval,hI,bA,q0,n8,g1,k86',hw];rfl
    ·exact⟨k+1,by simp only[E8,seval,hI],by omega,rfl⟩
   ·rw[DG,if_neg g1] at hs;apply oN ((ol L).length-(k+1))
    ·simp only[Z8,seval,hI,bA,q0,n8,g1,hw];rfl
    ·exact⟨k+1,by simp only[E8,seval,hI,hs],by omega,rfl⟩
  ·have De:k=(ol L).length:=by omega
   rw[De,List.take_length] at hI;apply oT (.exit 0)
   ·simp only[Z8,seval,hI,Int.lt_irrefl];rfl
   ·exact⟨rfl,by simp only[E8,seval,hI]⟩
 case start=>exact⟨0,by rw[List.take_zero,show Fm v.ns (Q,t.bE) []=(Q,t.bE) from rfl,aFa h];simp only[E8,seval]<;>rfl,by omega,by omega⟩
 case rest =>
  rintro e st ⟨rfl,hI⟩
  have SR:=(hT (ol L).length (Nat.le_refl _)).fl
  rw[List.take_length] at SR;simp only[Z8,seval,hI];exact⟨_,eU rfl (by simp only[E8,seval,hI,SR]<;>rfl) (by simp only[Z8,seval,hI,SR]<;>rfl) (by simp only[dU,and_self,hI,SR]),rfl⟩
noncomputable def LN (b:Int):Nat→Int→Int
 | 0,d=>d
 | n+1,d=>if IntKind.u64.wrap (b-d)≤d then b else LN b n (IntKind.u64.wrap (2 * d))
noncomputable def SS (n b:Int):Int:=if b=0 then 0 else LN b (n-1).toNat 1
theorem aO8 (n b:Int) (hn:n≤9223372036854775807):aD Tryz.prog 143 [.v (.int .i64 n),.v (.int .u64 b)]=some (.v (.int .u64 (SS n b))):=by
 rw[cL Tryz.func143 rfl aKA rfl];refine lM ?_
 by_cases g0:b=0
 ·simp only[Z8,seval,bt g0];exact⟨_,bX rfl (by simp only[E8,seval]<;>rfl) (by first|exact .v _|simp only[dU]),by rw[SS,if_pos g0]⟩
 simp only[Z8,seval,bf g0];refine cM (fun m st=>∃(k:Nat) (d i:Int),(st.env 0=.v (.int .i64 n)∧st.env 1=.v (.int .u64 b)∧st.env 5=.v (.int .u64 d)∧st.env 6=.v (.int .i64 i))∧i=k+1∧LN b ((n-1).toNat-k) d=LN b (n-1).toNat 1∧k≤(n-1).toNat∧m=(n-1).toNat-k)
  (fun e st=>(e=.ret∧st.env 4=.v (.int .u64 (LN b (n-1).toNat 1)))∨(e=.exit 0∧st.env 5=.v (.int .u64 (LN b (n-1).toNat 1)))) (n-1).toNat ?step ?start ?rest
 case step =>
  rintro m st ⟨k,d,i,hI,hi,hd,hk,hm⟩
  by_cases bA:i<n
  ·have hw:IntKind.i64.wrap (i+1)=i+1:=pV _ (by omega) (by omega)
   have e1:(n-1).toNat-k=((n-1).toNat-(k+1))+1:=by omega
   rw[e1,LN] at hd;by_cases g1:IntKind.u64.wrap (b-d)≤d
   ·rw[if_pos g1] at hd;apply oT (.ret)
    ·simp only[Z8,seval,hI,bA,g1];rfl
    ·exact .inl ⟨rfl,by rw[← hd];simp only[E8,seval]⟩
   ·rw[if_neg g1] at hd;apply oN ((n-1).toNat-(k+1))
    ·simp only[Z8,seval,hI,bA,g1,hw];rfl
    ·exact⟨k+1,_,i+1,by and_intros<;>(simp only[E8,seval,hI]<;>rfl),by omega,hd,by omega,rfl⟩
  ·have e1:(n-1).toNat-k=0:=by omega
   rw[e1,LN] at hd;apply oT (.exit 0)
   ·simp only[Z8,seval,hI,bA];rfl
   ·exact .inr ⟨rfl,by rw[← hd];simp only[E8,seval,hI]⟩
 case start=>exact⟨0,1,1,by and_intros<;>(simp only[E8,seval]<;>rfl),rfl,rfl,by omega,by omega⟩
 case rest =>
  rintro e st (⟨rfl,h⟩|⟨rfl,h⟩)
  ·simp only[Z8,seval,h];exact⟨_,bX rfl (by simp only[E8,seval,h]<;>rfl) (by first|exact .v _|simp only[dU,h]),by rw[SS,if_neg g0]⟩
  ·simp only[Z8,seval,h];exact⟨_,bX rfl (by simp only[E8,seval,h]<;>rfl) (by first|exact .v _|simp only[dU,h]),by rw[SS,if_neg g0]⟩
theorem aO9 (n b:Int) (hn:n≤9223372036854775807) (st:St) (d:Option Nat):aP (aD Tryz.prog) 143 [.v (.int .i64 n),.v (.int .u64 b)] st d=some { dst:=d,val:=.v (.int .u64 (SS n b))}:=kx (aO8 n b hn) (bI (.v _) (.v _)) (.v _) st d
end Go.Ab.Tryz
