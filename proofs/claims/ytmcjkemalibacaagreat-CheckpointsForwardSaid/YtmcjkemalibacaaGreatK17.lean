/-
  Part 17 of the proof: an evaluator of programs, its soundness, and what functions of this program compute.
-/
import Derived.Test.YtmcjkemalibacaaGreatK16
import Derived.Test.YtmcjkemalibacaaGreatK13
import Derived.Test.YtmcjkemalibacaaGreatK12
import Derived.Test.YtmcjkemalibacaaGreatK15
import Derived.Test.YtmcjkemalibacaaGreatK11
import Derived.Test.YtmcjkemalibacaaGreatK19
set_option linter.all false
set_option maxRecDepth 20000
set_option maxHeartbeats 40000000
open Go.IntKind (i64 u64 u8)
open List Go.Proofs.Tryz
noncomputable section
namespace Go.Ab.Tryz
open Classical Go.Proofs Go.Ab
def yE (n:Int):(mkRoot n)[0]=u8.wrap n:=by
 simp[mkRoot]
def Jy {n:Int} (h0:0<=n) (h1:n<256):u8.wrap n=n:=by
 simp only[IntKind.wrap,IntKind.bits,IntKind.signed];simp
 omega
def aG2 {n:Int} (h0:1<=n) (h1:n<=98):Pr (mkRoot n):=by
 refine⟨fun e=>?_,fun e=>?_⟩
 ·have e1:u8.wrap n=cO[0]:=by rw[<- yE,e]
  rw[Jy (by omega) (by omega),show cO[0]=0 from rfl] at e1
  omega
 ·have e1:u8.wrap n=u8.wrap 99:=by rw[<- yE,<- yE,e]
  rw[Jy (by omega) (by omega),Jy (by omega) (by omega)] at e1
  omega
def VS.new {c:Config} {b:List Int} (h:Bb c b):VS (yX c b) (wP c b):=by
 have hv:Tx (wP c b).ns:=⟨by show 0<1;omega,by show 1<=4096;omega,rfl,fun i h0 h1=>by have h1:i<((1:Nat):Int):=h1;omega,fun i h0 h1=>by have h1:i<((1:Nat):Int):=h1;omega,fun i h0 h1=>by have h1:i<((1:Nat):Int):=h1;omega,fun i j h0 h1 h2=>by have h2:j<((1:Nat):Int):=h2;omega,fun i h0 h1=>by
  have h1:i<((1:Nat):Int):=h1
  obtain rfl:i=0:=by omega
  rfl⟩
 have hf:aC (wP c b).ns c.cV=0:=hv.find (Int.le_refl 0) (by show (0:Int)<((1:Nat):Int);omega) rfl
 refine⟨hv,fun i h0 h1=>by have h1:i<((1:Nat):Int):=h1;omega,fun n hn _=>?_, ?_,rfl,.inr ?_,fun t ht=>?_,pairwise_singleton ..,fun x hx _=>eq_of_mem_replicate hx,.inl rfl,.inl rfl,fun n hn=>?_,(fun a ha=>by cases ha),(fun o ho=>by cases ho),.nil⟩
 ·rw[show n=⟨FQ c,-1,1⟩ from mem_singleton.1 hn]
 ·show (nd (wP c b).ns (aC (wP c b).ns c.cV)).status≠2
  rw[hf];show (1:Int)≠2;omega
 ·show (0:Int)<=(Mt 0 c.jS).1
  unfold Mt AG;rw[if_pos h.jS];split
  ·exact Int.le_refl 0
  ·rw[Int.zero_mul];decide
 ·rw[show t=⟨⟨0,c.cV⟩,ov bF (some b)⟩ from mem_singleton.1 ht];exact aGN _ (some b) rfl (by have:=h.nb;show (b.length:Int)<=1000;omega) fun x hx=>by have:=h.bv x hx;omega
 ·rw[show n=⟨FQ c,-1,1⟩ from mem_singleton.1 hn];refine⟨Int.le_refl 0,Int.le_refl 0,Int.le_refl 0,Int.le_refl 0, ?_⟩
  show (0:Int)<=u64.wrap (Int.tdiv 0 c.jS)
  rw[Int.zero_tdiv];decide
def RG.new {c:Config} {b:List Int} (h:Bb c b):RG (yX c b) (wP c b):=by
 have hg:Pr c.cV:=by rw[h.gen];exact aG2 (by omega) (by omega)
 have z:Rg 0:=I0
 refine⟨⟨⟨by show (0:Int)<=0;omega,by show (0:Int)<=_;omega⟩,z,z,fun n hn=>?_,(fun o ho=>by cases ho),fun n hn=>?_,⟨by show (0:Int)<=0;omega, ?_⟩, ?_, ?_, ?_,VS.new h⟩,fun o ho=>by cases ho⟩
 ·rw[show n=⟨FQ c,-1,1⟩ from mem_singleton.1 hn];exact⟨⟨z,z,z,z,z⟩,by show (0:Int)<=0;omega⟩
 ·rw[show n=⟨FQ c,-1,1⟩ from mem_singleton.1 hn];exact hg
 ·show (0:Int)<=u64.wrap (Int.tdiv 0 c.jS)
  rw[Int.zero_tdiv];decide
 ·show ([c.cV]:List cC).Nodup
  simp
 ·exact⟨⟨⟨0,c.cV⟩,ov bF (some b)⟩,mem_singleton.2 rfl,rfl⟩
 ·exact⟨nofun,nofun,nofun,by simp[wP],(fun a ha=>by cases ha),fun t ht=>⟨b,by rw[show t=⟨⟨0,c.cV⟩,ov bF (some b)⟩ from mem_singleton.1 ht],fun e=>by have:=h.nb.1;rw[e] at this;simp at this⟩⟩
def aBl (c:Config) (b:List Int):State:={ lZ with store:=yX c b,dB:=1 }
def TI.new {c:Config} {b:List Int} (h:Bb c b):TI (aBl c b) (wP c b) none none 0 0:=by
 have g:=GI.new h
 have r:=RG.new h
 have hr:=h.oZ
 exact⟨⟨⟨g.sd,rfl,rfl,by show ((0:Nat):Int)<_;omega,by show ((0:Nat):Int)<_;omega⟩,g,r,⟨b,h⟩,⟨by show (1:Int)<=1;omega,(fun r hr=>by cases hr),List.Pairwise.nil⟩,⟨(fun r hr=>by cases hr),List.Pairwise.nil⟩,by show (1:Int)<=1+0;omega,by show ((0:Nat):Int)<=0;omega,by show ((0:Nat):Int)<=c.kU.oZ;omega,by omega,nofun,nofun⟩,(fun r hr=>by cases hr),(fun r hr=>by cases hr)⟩
def aRs {c:Config} {b:List Int} (h:Bb c b):∃r,aG prog 144 [.agg (bX c)]=some r/\∃(Ox:Bool) (last:Command) (y:AV),r=.eH [.agg (aP { aBl c b with Ox:=Ox,last:=last }),y,.v (.int .i64 0)]/\Flat y:=by
 have T:=TI.new h
 have fc:Flat (.agg (bX c)):=(wH c).2 (by rw[h.iF];exact dZ _)
 have fs:=T.gi.sd.flat
 have aBm:=kx (aIb h) (cP fc) (.eH _ (bB fs (.v _)))
 obtain⟨y3,hy3,s,l,y,rfl,fy⟩:=aMd (aBl c b) T.td.flat T.gi
 have ft3:=(T.emit s l).td.flat
 have aIv:=kx hy3 (cP T.td.flat) (.eH _ (bB ft3 fy))
 have eb:({ lZ with store:=yX c b,dB:=1 }:State)=aBl c b:=rfl
 rw[cL func144 rfl rfl];simp only[Z8,seval,aBm,dR,eb,aIv];exact⟨_,fQ rfl (by simp only[bY,Z8,seval]<;>rfl) (by simp only[bY,Z8,seval]<;>rfl) (by simp only[bY,E8,seval]<;>rfl) (eC ft3) (eC fy) (eC (.v _)),s,l,y,rfl,fy⟩
def Pg (l:List yQ):List AV:=l.flatMap lD
def aBn (x:yQ):zQ 190 446 720 (some (1,lD x))=some (none,.row 190 446 [x].length (Pg [x])):=by simp[zQ,maxLen,Pg]
def aBo (l:List yQ) (x:yQ) (s g:Nat) (h:(l.length:Int)<1000000):zF 190 446 720 (some (.row 190 446 l.length (Pg l))) s g (some (1,lD x))=some (some (s,g),.row 190 446 (l++[x]).length (Pg (l++[x]))):=by
 simp only[zF];rw[if_pos ⟨by simp,trivial,trivial,by omega,by simp only[maxLen];omega⟩]
 simp[Pg,flatMap_append]
def Uy (l:List yQ) (h:∀y∈l,pX y):∀x∈Pg l,Flat x:=by
 intro x hx;obtain⟨y,hm,hy⟩:=mem_flatMap.1 hx
 have hf:=(h y hm).flat
 cases hf with
 | agg _ hc=>exact hc x hy
def aG3 (n:Nat) (l:List yQ) (h:∀y∈l,pX y):jN (some (.row 190 446 n (Pg l)))=some (.sl n (Pg l)):=by
 unfold jN;simp only;rw[if_pos (Uy l h)]
def x75 (l:List Int) (hl:(l.length:Int)<=9223372036854775807):∃r,aG prog 75 [.sl l.length (aM l)]=some r/\∃(c:Config) (X:AV) (t:State) (v:SV) (Q R:Option (List Request)),r=.eH [.agg (bX c),X,.agg (aP t)]/\Flat (.agg (bX c))/\Flat X/\TI t v Q R 24000 6144:=by
 obtain⟨y1,hy1,c,b,rfl,hc⟩:=aRf l hl
 have fc:Flat (.agg (bX c)):=(wH c).2 (by rw[hc.iF];exact dZ _)
 have aEI:∀(st:St) (d:Option Nat),fJ (aG prog) 101 _ st d=_:=fun st d=>Ju (cP (Ud l)) hy1 fc
 obtain⟨y2,hy2,Ox,last,y,rfl,fy⟩:=aRs hc
 have T0:=(TI.new hc).emit Ox last
 have k144:=kx hy2 (cP fc) (.eH _ (mM T0.td.flat fy (.v _)))
 have k16:=Qt l hl 16 (by omega) (by omega)
 have k17:=Qt l hl 17 (by omega) (by omega)
 have n0:=(Je l hl 16 (by omega) (by omega)).2.1
 obtain⟨n1,n2⟩:=cU (n:=25) n0 (by omega)
 obtain⟨N,hN⟩:∃N,(Ms l 16).tmod 25=N:=⟨_,rfl⟩
 rw[hN] at n1 n2;rw[cG func75 rfl rfl]
 have body:∀(M:Int),0<=M->M<=24->∀st:St,(st.env 0=.sl l.length (aM l)/\st.env 2=.ptr 2 0 0/\st.heap 2 0=some (.cells (bX mX))/\st.env 4=.ptr 4 0 0/\st.heap 4 0=some (.cells (aP lZ))/\st.env 5=.ptr 5 0 0/\st.heap 5 0=some (.cells (bX c))/\st.env 6=.ptr 6 0 0/\st.heap 6 0=some (.cells (aP { aBl c b with Ox:=Ox,last:=last }))/\st.env 9=.v (.slice none 0 0)/\st.env 10=.v (.int .i64 M)/\st.env 11=.v (.int .i64 0))->∃e st',xZ prog true (lA (Tryz.f75.body.getD .skip)) st=some (e,st')/\(e=.exit 0/\∃(t:State) (v:SV) (Q R:Option (List Request)),(st'.env 2=.ptr 2 0 0/\st'.heap 2 0=some (.cells (bX mX))/\st'.env 4=.ptr 4 0 0/\st'.heap 4 0=some (.cells (aP lZ))/\st'.env 5=.ptr 5 0 0/\st'.heap 5 0=some (.cells (bX c))/\st'.env 6=.ptr 6 0 0/\st'.heap 6 0=some (.cells (aP t)))/\(st'.env 9=.v (.slice none 0 0)\/∃(L:List yQ) (g:Nat),st'.env 9=.own 48 g/\st'.heap 48 g=some (.row 190 446 L.length (Pg L))/\∀y∈L,pX y)/\TI t v Q R 24000 6144):=by
  intro M hM0 hM1 st hs;suffices key:∃r,cT (xZ prog true (lA (Tryz.f75.body.getD .skip)) st) some=some r/\(r.1=.exit 0/\∃(t:State) (v:SV) (Q R:Option (List Request)),(r.2.env 2=.ptr 2 0 0/\r.2.heap 2 0=some (.cells (bX mX))/\r.2.env 4=.ptr 4 0 0/\r.2.heap 4 0=some (.cells (aP lZ))/\r.2.env 5=.ptr 5 0 0/\r.2.heap 5 0=some (.cells (bX c))/\r.2.env 6=.ptr 6 0 0/\r.2.heap 6 0=some (.cells (aP t)))/\(r.2.env 9=.v (.slice none 0 0)\/∃(L:List yQ) (g:Nat),r.2.env 9=.own 48 g/\r.2.heap 48 g=some (.row 190 446 L.length (Pg L))/\∀y∈L,pX y)/\TI t v Q R 24000 6144) by
   obtain⟨r,h,hq⟩:=key
   cases hx:xZ prog true (lA (Tryz.f75.body.getD .skip)) st with
   | none=>rw[hx] at h;cases h
   | some y=>rw[hx] at h;simp only[cF,aAk] at h;subst h;exact⟨y.1,y.2,rfl,hq⟩
  simp only[Tryz.f75,Option.getD_some,lA];refine kZ (fun m st=>∃(k:Nat) (t:State) (v:SV) (Q R:Option (List Request)),(st.env 0=.sl l.length (aM l)/\st.env 2=.ptr 2 0 0/\st.heap 2 0=some (.cells (bX mX))/\st.env 4=.ptr 4 0 0/\st.heap 4 0=some (.cells (aP lZ))/\st.env 5=.ptr 5 0 0/\st.heap 5 0=some (.cells (bX c))/\st.env 6=.ptr 6 0 0/\st.heap 6 0=some (.cells (aP t))/\st.env 10=.v (.int .i64 M)/\st.env 11=.v (.int .i64 k))/\(st.env 9=.v (.slice none 0 0)\/∃(L:List yQ) (g:Nat),(st.env 9=.own 48 g/\st.heap 48 g=some (.row 190 446 L.length (Pg L)))/\g<st.aQ 48/\(∀y∈L,pX y)/\L.length<=k)/\TI t v Q R (1000 * k) (256 * k)/\(k:Int)<=M/\m=(M-k).toNat)
   (fun e st=>e=.exit 0/\∃(t:State) (v:SV) (Q R:Option (List Request)),(st.env 2=.ptr 2 0 0/\st.heap 2 0=some (.cells (bX mX))/\st.env 4=.ptr 4 0 0/\st.heap 4 0=some (.cells (aP lZ))/\st.env 5=.ptr 5 0 0/\st.heap 5 0=some (.cells (bX c))/\st.env 6=.ptr 6 0 0/\st.heap 6 0=some (.cells (aP t)))/\(st.env 9=.v (.slice none 0 0)\/∃(L:List yQ) (g:Nat),st.env 9=.own 48 g/\st.heap 48 g=some (.row 190 446 L.length (Pg L))/\∀y∈L,pX y)/\TI t v Q R 24000 6144) M.toNat ?step ?start ?rest
  case start=>exact⟨0,_,_,_,_,⟨hs.1,hs.2.1,hs.2.2.1,hs.2.2.2.1,hs.2.2.2.2.1,hs.2.2.2.2.2.1,hs.2.2.2.2.2.2.1,hs.2.2.2.2.2.2.2.1,hs.2.2.2.2.2.2.2.2.1,hs.2.2.2.2.2.2.2.2.2.2.1,hs.2.2.2.2.2.2.2.2.2.2.2⟩,.inl hs.2.2.2.2.2.2.2.2.2.1,T0,by omega,by omega⟩
  case rest=>exact fun e st h=>⟨_,rfl,h⟩
  case step =>
   clear hs
   rintro m st ⟨k,t,v,Q,R,hI,hX,T,hk,hm⟩
   by_cases aW:(k:Int)<M
   case neg =>
    have hX':st.env 9=.v (.slice none 0 0)\/∃(L:List yQ) (g:Nat),st.env 9=.own 48 g/\st.heap 48 g=some (.row 190 446 L.length (Pg L))/\∀y∈L,pX y:=hX.imp id fun ⟨L,g,h1,_,h3,_⟩=>⟨L,g,h1.1,h1.2,h3⟩
    apply IY (.exit 0)
    ·simp only[ZG,seval,CB,hI,aW];rfl
    ·exact⟨rfl,t,v,Q,R,by simp only[E8,seval,hI],by simpa only[E8,seval] using hX',T.mono (by omega) (by omega) (by omega) (by omega)⟩
   have hw:=wk (k:=k) (by omega)
   obtain⟨j,hj⟩:∃j:Int,j=18+(k:Int):=⟨_,rfl⟩
   have hwj:i64.wrap (18+(k:Int))=j:=by rw[Ty _ (by omega) (by omega),hj]
   obtain⟨n,hn⟩:∃n:Int,n=10+(k:Int):=⟨_,rfl⟩
   have hwn:i64.wrap (10+(k:Int))=n:=by rw[Ty _ (by omega) (by omega),hn]
   have kj:=Qt l hl j (by omega) (by omega)
   have j0:=(Je l hl j (by omega) (by omega)).2.1
   have op:∀z:Int,0<=z->∃(y:yQ) (t':State) (w:AV) (e:Int) (v':SV) (Q' R':Option (List Request)),(∀(st:St) (d:Option Nat),bH (aG prog) 146 [.agg (aP t),.v (.int .i64 n),.v (.int .i64 z)] st d=some { dst:=d,val:=.agg (lD y)})/\(∀(st:St) (d:Option Nat),bH (aG prog) 147 [.agg (aP t),.agg (lD y)] st d=some { dst:=d,val:=.eH [.agg (aP t'),w,.v (.int .i64 e)]})/\pX y/\TI t' v' Q' R' (1000 * ((k+1:Nat):Int)) (256 * ((k+1:Nat):Int)):=by
    intro z hz;obtain⟨y3,hy3,o,rfl,ho,hr⟩:=aRc T.td T.gi T.rg T.iF (fun r hr=>by obtain⟨h1,h2,_⟩:=T.tq.all r hr;have:=T.nt;exact⟨by omega,by omega⟩) n z hz
    have hp:o.kind=2->Pr o.block.root:=fun h2=>by
     rcases hr h2 with h|⟨a,ha,h⟩
     ·rw[h];exact aG2 (by omega) (by omega)
     ·rw[h];exact T.rg.rt a ha
    obtain⟨y4,hy4,t',w,e,v',Q',R',rfl,fw,T'⟩:=aRr T o ho hp (by omega) (by omega)
    exact⟨o,t',w,e,v',Q',R',kx hy3 (mM T.td.flat (.v _) (.v _)) ho.flat,kx hy4 (bB T.td.flat ho.flat) (.eH _ (mM T'.td.flat fw (.v _))),ho,T'.mono (by omega) (by omega) (by omega) (by omega)⟩
   by_cases k0:(k:Int)=0
   ·obtain⟨o,t',w,e,v',Q',R',aBp,aBq,ho,T'⟩:=op 0 (by omega)
    rcases hX with hX|⟨L,g,hX,hg,hL,hLk⟩
    ·apply Dr ((M-((k+1:Nat):Int)).toNat)
     ·simp only[ZG,seval,CB,hI,hX,aW,hwj,kj,bt k0,hwn,aBp,aBn,aBq,dR,hw];rfl
     ·exact⟨k+1,t',v',Q',R',by simp only[E8,seval,hI],.inr ⟨[o],_,⟨by simp only[E8,seval]<;>rfl,by simp only[E8,seval]<;>rfl⟩,by simp only[E8,seval]<;>omega,(fun y hy=>by rw[mem_singleton] at hy;rw[hy];exact ho),by simp⟩,T',by omega,rfl⟩
    ·have nL:(L.length:Int)<1000000:=by omega
     have vQ:(g=st.aQ 48)=False:=eq_false (by omega)
     apply Dr ((M-((k+1:Nat):Int)).toNat)
     ·simp only[ZG,seval,CB,hI,hX,vQ,aW,hwj,kj,bt k0,hwn,aBp,aBo _ _ _ _ nL,aBq,dR,hw];rfl
     ·exact⟨k+1,t',v',Q',R',by simp only[E8,seval,hI],.inr ⟨L++[o],_,⟨by simp only[E8,seval]<;>rfl,by simp only[E8,seval]<;>rfl⟩,by simp only[E8,seval]<;>omega,(fun y hy=>(mem_append.1 hy).elim (hL y) fun h=>by rw[mem_singleton] at h;rw[h];exact ho),by rw[length_append,length_cons,length_nil];omega⟩,T',by omega,rfl⟩
   ·obtain⟨o,t',w,e,v',Q',R',aBp,aBq,ho,T'⟩:=op (Ms l j) j0
    rcases hX with hX|⟨L,g,hX,hg,hL,hLk⟩
    ·apply Dr ((M-((k+1:Nat):Int)).toNat)
     ·simp only[ZG,seval,CB,hI,hX,aW,hwj,kj,bf k0,hwn,aBp,aBn,aBq,dR,hw];rfl
     ·exact⟨k+1,t',v',Q',R',by simp only[E8,seval,hI],.inr ⟨[o],_,⟨by simp only[E8,seval]<;>rfl,by simp only[E8,seval]<;>rfl⟩,by simp only[E8,seval]<;>omega,(fun y hy=>by rw[mem_singleton] at hy;rw[hy];exact ho),by simp⟩,T',by omega,rfl⟩
    ·have nL:(L.length:Int)<1000000:=by omega
     have vQ:(g=st.aQ 48)=False:=eq_false (by omega)
     apply Dr ((M-((k+1:Nat):Int)).toNat)
     ·simp only[ZG,seval,CB,hI,hX,vQ,aW,hwj,kj,bf k0,hwn,aBp,aBo _ _ _ _ nL,aBq,dR,hw];rfl
     ·exact⟨k+1,t',v',Q',R',by simp only[E8,seval,hI],.inr ⟨L++[o],_,⟨by simp only[E8,seval]<;>rfl,by simp only[E8,seval]<;>rfl⟩,by simp only[E8,seval]<;>omega,(fun y hy=>(mem_append.1 hy).elim (hL y) fun h=>by rw[mem_singleton] at h;rw[h];exact ho),by rw[length_append,length_cons,length_nil];omega⟩,T',by omega,rfl⟩
 by_cases g1:0<(Ms l 17).tmod 4
 ·simp only[ZG,seval,CB,aEI,k144,dR,k16,hN,k17,g1];refine Ls (a:=lA (Tryz.f75.body.getD .skip)) (fun e st'=>e=.exit 0/\∃(t:State) (v:SV) (Q R:Option (List Request)),(st'.env 2=.ptr 2 0 0/\st'.heap 2 0=some (.cells (bX mX))/\st'.env 4=.ptr 4 0 0/\st'.heap 4 0=some (.cells (aP lZ))/\st'.env 5=.ptr 5 0 0/\st'.heap 5 0=some (.cells (bX c))/\st'.env 6=.ptr 6 0 0/\st'.heap 6 0=some (.cells (aP t)))/\(st'.env 9=.v (.slice none 0 0)\/∃(L:List yQ) (g:Nat),st'.env 9=.own 48 g/\st'.heap 48 g=some (.row 190 446 L.length (Pg L))/\∀y∈L,pX y)/\TI t v Q R 24000 6144) (body 24 (by omega) (by omega) _ (by simp only[E8,seval]<;>rfl)) ?rest
  rintro e st ⟨rfl,t,v,Q,R,hI,hX|⟨L,g,hX,hh,hL⟩,T⟩
  ·have ft:=T.td.flat
   simp only[ZG,seval,CB,hI,hX];exact⟨_,fQ rfl (by simp only[bY,Z8,seval,hI]<;>rfl) (by simp only[bY,Z8,seval,hX]<;>rfl) (by simp only[bY,Z8,seval,hI]<;>rfl) (eC fc) (eC (.v _)) (eC ft),c,_,t,v,Q,R,rfl,fc,.v _,T⟩
  ·have ft:=T.td.flat
   have ex:=aG3 L.length L hL
   simp only[ZG,seval,CB,hI,hX,hh];exact⟨_,fQ rfl (by simp only[bY,Z8,seval,hI]<;>rfl) (by simp only[bY,Z8,seval,hX]<;>rfl) (by simp only[bY,Z8,seval,hI]<;>rfl) (eC fc) (by simp only[Z8,seval,hh,ex]<;>rfl) (eC ft),c,_,t,v,Q,R,rfl,fc,.sl _ _ (Uy L hL),T⟩
 ·simp only[ZG,seval,CB,aEI,k144,dR,k16,hN,k17,g1];refine Ls (a:=lA (Tryz.f75.body.getD .skip)) (fun e st'=>e=.exit 0/\∃(t:State) (v:SV) (Q R:Option (List Request)),(st'.env 2=.ptr 2 0 0/\st'.heap 2 0=some (.cells (bX mX))/\st'.env 4=.ptr 4 0 0/\st'.heap 4 0=some (.cells (aP lZ))/\st'.env 5=.ptr 5 0 0/\st'.heap 5 0=some (.cells (bX c))/\st'.env 6=.ptr 6 0 0/\st'.heap 6 0=some (.cells (aP t)))/\(st'.env 9=.v (.slice none 0 0)\/∃(L:List yQ) (g:Nat),st'.env 9=.own 48 g/\st'.heap 48 g=some (.row 190 446 L.length (Pg L))/\∀y∈L,pX y)/\TI t v Q R 24000 6144) (body N (by omega) (by omega) _ (by simp only[E8,seval]<;>rfl)) ?BM
  rintro e st ⟨rfl,t,v,Q,R,hI,hX|⟨L,g,hX,hh,hL⟩,T⟩
  ·have ft:=T.td.flat
   simp only[ZG,seval,CB,hI,hX];exact⟨_,fQ rfl (by simp only[bY,Z8,seval,hI]<;>rfl) (by simp only[bY,Z8,seval,hX]<;>rfl) (by simp only[bY,Z8,seval,hI]<;>rfl) (eC fc) (eC (.v _)) (eC ft),c,_,t,v,Q,R,rfl,fc,.v _,T⟩
  ·have ft:=T.td.flat
   have ex:=aG3 L.length L hL
   simp only[ZG,seval,CB,hI,hX,hh];exact⟨_,fQ rfl (by simp only[bY,Z8,seval,hI]<;>rfl) (by simp only[bY,Z8,seval,hX]<;>rfl) (by simp only[bY,Z8,seval,hI]<;>rfl) (eC fc) (by simp only[Z8,seval,hh,ex]<;>rfl) (eC ft),c,_,t,v,Q,R,rfl,fc,.sl _ _ (Uy L hL),T⟩
def x24 (l:List Int) (hl:(l.length:Int)<=9223372036854775807):∃(t:State) (v:SV) (Q R:Option (List Request)),aG prog 24 [.sl l.length (aM l)]=some (.agg (aP t))/\TI t v Q R 24000 6144:=by
 suffices h:∃r,aG prog 24 [.sl l.length (aM l)]=some r/\∃(t:State) (v:SV) (Q R:Option (List Request)),r=.agg (aP t)/\TI t v Q R 24000 6144 by
  obtain⟨r,h,t,v,Q,R,rfl,T⟩:=h
  exact⟨t,v,Q,R,h,T⟩
 obtain⟨y,hy,c,X,t,v,Q,R,rfl,fc,fX,T⟩:=x75 l hl
 have ft:=T.td.flat
 have k75:=kx hy (cP (Ud l)) (.eH _ (mM fc fX ft))
 rw[cL func24 rfl rfl];simp only[Z8,seval,k75,dR];exact⟨_,fM rfl (by simp only[E8,seval,ft]<;>rfl) (by simp only[Z8,seval,ft]<;>rfl) (by simp only[jE,and_self,ft]),t,v,Q,R,rfl,T⟩
def aBr {s:aL} (h:1<=s.cFg.jS/\s.cFg.jS<=64) {e x:Int} (e0:0<=e) (he:e<=wL s x) (hx:Rg x):sJ s e=(e * s.cFg.jS,0)/\e * s.cFg.jS<=x:=by
 have h1:wL s x=x / s.cFg.jS:=by
  unfold wL;rw[Int.tdiv_eq_ediv_of_nonneg hx.1];have:=Int.ediv_le_self s.cFg.jS hx.1
  have:=hx.2
  exact FO _ (Int.ediv_nonneg hx.1 (by omega)) (by omega)
 rw[h1] at he;have hm:e * s.cFg.jS<=x:=(Int.le_ediv_iff_mul_le (by omega)).1 he
 have h0:0<=e * s.cFg.jS:=Int.mul_nonneg e0 (by omega)
 have hb:=hx.2
 refine⟨?_,hm⟩
 unfold sJ Mt AG;rw[if_pos h];have ht:Int.tdiv 18446744073709551615 s.cFg.jS=18446744073709551615 / s.cFg.jS:=Int.tdiv_eq_ediv_of_nonneg (by omega)
 have hq:=Int.ediv_le_self s.cFg.jS (show (0:Int)<=18446744073709551615 by omega)
 have hq0:=Int.ediv_nonneg (show (0:Int)<=18446744073709551615 by omega) (show 0<=s.cFg.jS by omega)
 rw[ht,FO _ hq0 (by omega),if_neg (fun k=>by have:=(Int.ediv_lt_iff_lt_mul (by omega)).1 k.2;omega),FO _ h0 (by omega)]
def JQ (n:Node) (r:cC):aC [n] r=if n.block.root=r then 0 else -1:=by
 unfold aC;by_cases h:n.block.root=r<;>simp[findIdx?_cons,h]
def aMN {a b:Int} (a0:0<=a) (a1:a<256) (b0:0<=b) (b1:b<256) (h:a≠b):mkRoot a≠mkRoot b:=fun e=>by
 have e1:u8.wrap a=u8.wrap b:=by rw[<- yE,<- yE,e]
 rw[Jy a0 a1,Jy b0 b1] at e1;exact h e1
def GI.now {s:aL} {v:SV} {q:Int} (h:GI s v q) (n:Int):GI { s with now:=n } v q :=
 ⟨⟨h.sd.iF,h.sd.dS,h.sd.gA,h.sd.early,h.sd.bN,h.sd.tree,h.sd.tables,h.sd.eV,h.sd.tB,h.sd.nB,h.sd.nL,h.sd.nQ,h.sd.nE,h.sd.nO,h.sd.nT,h.sd.nn⟩,h.up,h.Ww,h.pos,h.nl,h.PK,h.jS,h.JB,h.nB,h.nO,h.LJ,h.nE,h.PL,h.nT,h.PM,h.nQ,h.O7,h.eI⟩
def RG.JH {s:aL} {v:SV} (r:RG s v) (hs:1<=s.cFg.jS) {n:Int} (h0:s.now<=n) (h1:n<=1099511627776):RG { s with now:=n } v :=
 ⟨⟨⟨by have:=r.now.1;show 0<=n;omega,h1⟩,r.j,r.f,fun a ha=>⟨(r.nd a ha).1,by have:=(r.nd a ha).2;show a.block.slot<=n;omega⟩,r.or,r.rt,⟨r.fe.1,Int.le_trans r.fe.2 (show wL s s.now<=wL s n from SA hs r.now.1 h0 (by omega))⟩,r.ds,r.tb,r.ne,r.vs.JH h0⟩,r.op⟩
def SN {c:Config} {b:List Int} (h:Bb c b):aC (wP c b).ns c.cV=0/\aC (wP c b).ns (mkRoot 9)=-1:=by
 have e:(wP c b).ns=[⟨FQ c,-1,1⟩]:=rfl
 rw[e,JQ,JQ,if_pos (show (FQ c).root=c.cV from rfl),if_neg (show ¬(FQ c).root=mkRoot 9 by show ¬c.cV=mkRoot 9;rw[h.gen];exact aMN (by omega) (by omega) (by omega) (by omega) (by omega))]
 exact⟨rfl,rfl⟩
end Go.Ab.Tryz
namespace Go.Ab.Tryz
open Classical Go.Proofs Go.Ab
open Classical Go.Proofs Go.Ab
end Go.Ab.Tryz
namespace Go.Ab.Tryz
open Classical Go.Proofs Go.Ab
def uo {α:Type} (e sz:Nat) (c:List α->List AV):Option (List α)->AV
 | none=>.v (.slice none 0 0)
 | some l=>.uniq e sz l.length (c l)
def rl {α:Type} (e sz:Nat) (c:List α->List AV):Option (List α)->List oA
 | none=>[]
 | some l=>[.row e sz l.length (c l)]
def rv {α:Type} (d k:Nat):Option (List α)->AV
 | none=>.v (.slice none 0 0)
 | some _=>.own d k
def XP (d:Nat) (es:List oA):Option (Nat × List oA):=if es=[] then none else some (d,es)
def aBs (st:St) (d:Nat):st.news d []=st:=by
 unfold St.news;cases st with
 | mk env heap aQ =>
   simp only[length_nil,Nat.not_lt_zero,and_false,if_false,Nat.add_zero,St.mk.injEq,true_and];funext s
   split
   ·rename_i h;rw[h]
   ·rfl
def Q2 (x:Option Nat) (v:AV) (d:Nat) (es:List oA) (st:St):({ dst:=x,val:=v,new:=XP d es }:qZ).apply st=(st.news d es).put x v:=by
 unfold XP;by_cases h:es=[]
 ·rw[if_pos h,h,aBs];rfl
 ·rw[if_neg h];rfl
def aBt (st:St) (t d:Nat) (es:List oA):(st.news d es).env t=st.env t:=rfl
def aBu (st:St) (t d:Nat) (es:List oA):(st.news d es).aQ t=if t=d then st.aQ d+es.length else st.aQ t:=rfl
def Ac (st:St) (s g d:Nat) (es:List oA):(st.news d es).heap s g=if s=d/\st.aQ d<=g/\g-st.aQ d<es.length then es[g-st.aQ d]? else st.heap s g:=rfl
def Hh {α:Type} {call:Nat->List AV->Option AV} {g e sz d:Nat} {args:List AV} {c:List α->List AV} {L:Option (List α)} {st:St} (hf:∀x∈args,Flat x) (h:call g args=some (uo e sz c L)) :
 bH call g args st (some d)=some { dst:=some d,val:=rv d (st.aQ d) L,new:=XP d (rl e sz c L)}:=by
 cases L with
 | none =>
   simp only[bH,if_pos hf,h,cF,uo,iZ,if_pos (Flat.v _),rv,rl,XP];rfl
 | some l=>rw[jM hf h];simp only[rv,rl,XP,cons_ne_nil,if_false]
def sC {α:Type} {st:St} {d k e sz:Nat} {c:List α->List AV} {L:Option (List α)} (hh:∀l,L=some l->st.heap d k=some (.row e sz l.length (c l))) (hf:∀l,L=some l->∀x∈c l,Flat x):kX st (rv d k L)=some (uo e sz c L):=by
 cases L with
 | none=>exact if_pos (Flat.v _)
 | some l =>
   have hn:¬Flat (.own d k):=by intro h;cases h
   simp only[rv,uo,kX,if_neg hn,hh l rfl,if_pos (hf l rfl)]
def I7 {α:Type} {c:List α->List AV} {z:Nat} (hc:∀l,(c l).length=l.length * z) (hz:0<z) {l:List α} (h:l≠[]):c l≠[]:=by
 intro he;have h1:=hc l
 rw[he] at h1;have h2:0<l.length:=length_pos_iff.mpr h
 have:=Nat.mul_pos h2 hz
 simp only[length_nil] at h1;omega
def aEJ {l:List Block} (h:l≠[]):Ext.ext 164 [.sl l.length (aH l)]=none:=by
 cases l with
 | nil=>exact absurd rfl h
 | cons x r=>rfl
def aRt (L:Option (List Int)) (h:L≠some []) (hn:((ol L).length:Int)<1000000):aG prog 160 [ov bF L]=some (uo 23 1 bF L):=by
 cases L with
 | none =>
   unfold ov;rw[cL func160 rfl rfl];simp only[Z8,seval];exact bT rfl (by simp only[E8,seval]<;>rfl) (.v _)
 | some l =>
   have hl:l≠[]:=fun h2=>h (by rw[h2])
   have gJ:bF l≠[]:=I7 (z:=1) (fun l=>by simp[Uz]) (by omega) hl
   have ha:=fun s g=>Lj (e:=23) (sz:=1) (by_:=8) (s:=s) (g:=g) (n:=l.length) (cs:=bF l) (by simp[Uz]) (by simp only[ol,Option.getD_some] at hn;omega) (by simp only[ol,Option.getD_some] at hn;unfold maxLen;omega)
   unfold ov;rw[cL func160 rfl rfl];simp only[Z8,seval,gJ,ha];exact uK rfl (by simp only[E8,seval];rfl) (by simp only[E8,seval]) (iG _)
def aMO (L:Option (List Int)) (h:L≠some []) (hn:((ol L).length:Int)<1000000) (st:St) (d:Nat):bH (aG prog) 160 [ov bF L] st (some d)=some { dst:=some d,val:=rv d (st.aQ d) L,new:=XP d (rl 23 1 bF L)}:=Hh (cP (dZ L)) (aRt L h hn)
def aRu (L:Option (List kN)) (h:L≠some []) (hn:((ol L).length:Int)<1000000):aG prog 190 [ov dE L]=some (uo 100 34 dE L):=by
 cases L with
 | none =>
   unfold ov;rw[cL func190 rfl rfl];simp only[Z8,seval];exact bT rfl (by simp only[E8,seval]<;>rfl) (.v _)
 | some l =>
   have hl:l≠[]:=fun h2=>h (by rw[h2])
   have gJ:dE l≠[]:=I7 (z:=34) (fun l=>by simp) (by omega) hl
   have ha:=fun s g=>Lj (e:=100) (sz:=34) (by_:=48) (s:=s) (g:=g) (n:=l.length) (cs:=dE l) (by simp) (by simp only[ol,Option.getD_some] at hn;omega) (by simp only[ol,Option.getD_some] at hn;unfold maxLen;omega)
   unfold ov;rw[cL func190 rfl rfl];simp only[Z8,seval,gJ,ha];exact uK rfl (by simp only[E8,seval];rfl) (by simp only[E8,seval]) (nN _)
def aRv (L:Option (List kN)) (h:L≠some []) (hn:((ol L).length:Int)<1000000) (st:St) (d:Nat):bH (aG prog) 190 [ov dE L] st (some d)=some { dst:=some d,val:=rv d (st.aQ d) L,new:=XP d (rl 100 34 dE L)}:=Hh (cP (pM L)) (aRu L h hn)
def aRw (L:Option (List Int)) (h:L≠some []) (hn:((ol L).length:Int)<1000000):aG prog 191 [ov aM L]=some (uo 3 1 aM L):=by
 cases L with
 | none =>
   unfold ov;rw[cL func191 rfl rfl];simp only[Z8,seval];exact bT rfl (by simp only[E8,seval]<;>rfl) (.v _)
 | some l =>
   have hl:l≠[]:=fun h2=>h (by rw[h2])
   have gJ:aM l≠[]:=I7 (z:=1) (fun l=>by simp[Lt]) (by omega) hl
   have ha:=fun s g=>Lj (e:=3) (sz:=1) (by_:=8) (s:=s) (g:=g) (n:=l.length) (cs:=aM l) (by simp[Lt]) (by simp only[ol,Option.getD_some] at hn;omega) (by simp only[ol,Option.getD_some] at hn;unfold maxLen;omega)
   unfold ov;rw[cL func191 rfl rfl];simp only[Z8,seval,gJ,ha];exact uK rfl (by simp only[E8,seval];rfl) (by simp only[E8,seval]) (gG _)
def aMP (L:Option (List Int)) (h:L≠some []) (hn:((ol L).length:Int)<1000000) (st:St) (d:Nat):bH (aG prog) 191 [ov aM L] st (some d)=some { dst:=some d,val:=rv d (st.aQ d) L,new:=XP d (rl 3 1 aM L)}:=Hh (cP (bQ L)) (aRw L h hn)
def aRx (L:Option (List Block)) (h:L≠some []) (hn:((ol L).length:Int)<1000000):aG prog 164 [ov aH L]=some (uo 74 238 aH L):=by
 cases L with
 | none =>
   unfold ov;rw[Rt prog func164 rfl aG4 _ rfl rfl];simp only[Z8,seval];exact bT rfl (by simp only[E8,seval]<;>rfl) (.v _)
 | some l =>
   have hl:l≠[]:=fun h2=>h (by rw[h2])
   have gJ:aH l≠[]:=I7 (z:=238) (fun l=>by simp) (by omega) hl
   have ha:=fun s g=>Lj (e:=74) (sz:=238) (by_:=336) (s:=s) (g:=g) (n:=l.length) (cs:=aH l) (by simp) (by simp only[ol,Option.getD_some] at hn;omega) (by simp only[ol,Option.getD_some] at hn;unfold maxLen;omega)
   unfold ov;rw[Rt prog func164 rfl aG4 _ (aEJ hl) rfl];simp only[Z8,seval,gJ,ha];exact uK rfl (by simp only[E8,seval];rfl) (by simp only[E8,seval]) (lE _)
def aRy (L:Option (List Block)) (h:L≠some []) (hn:((ol L).length:Int)<1000000) (st:St) (d:Nat):bH (aG prog) 164 [ov aH L] st (some d)=some { dst:=some d,val:=rv d (st.aQ d) L,new:=XP d (rl 74 238 aH L)}:=Hh (cP (Gy L)) (aRx L h hn)
def mT {α:Type} {st:St} {d k e sz:Nat} {c:List α->List AV} {L:Option (List α)} (hh:∀l,L=some l->st.heap d k=some (.row e sz l.length (c l))) (hf:∀l,L=some l->∀x∈c l,Flat x):cN st (rv d k L)=some (ov c L):=by
 cases L with
 | none=>exact if_pos (Flat.v _)
 | some l =>
   have hn:¬Flat (.own d k):=by intro h;cases h
   simp only[rv,ov,cN,if_neg hn,hh l rfl,if_pos (hf l rfl)]
def aBv {α:Type} (d k:Nat) (L:Option (List α)):(rv d k L).cells=[rv d k L]:=by cases L<;>rfl
def aEK {α:Type} (d k:Nat) (L:Option (List α)):(rv d k L).jH=true:=by cases L<;>rfl
def NW:=aj (aj (aj @Q2 @aBt) (aj @aBu @Ac)) (aj @aBv @aEK)
def aRz (a:rX) (V:Option (List Int)) (ha:a.eM=ov aM V) (h:V≠some []) (hn:((ol V).length:Int)<1000000):aG prog 163 [.agg (iD a)]=some (.agg (iD a)):=by
 rw[cL func163 rfl rfl];simp only[Z8,seval,ha,aMP V h hn,NW];refine eG rfl (by simp only[E8,seval,NW]<;>rfl) (cs:=iD { a with eM:=rv 5 0 V }) (by simp only[Z8,seval,NW]<;>rfl) ?_
 rw[bP,mA,mT (e:=3) (sz:=1) (c:=aM) (L:=V) ?h (fun l _=>gG l),cF,cF,<- ha]
 case h =>
  intro l hl;subst hl;simp only[E8,seval,Ac,rl,length_cons,Nat.lt_add_left_iff_pos,Nat.zero_lt_succ,if_true]
end Go.Ab.Tryz
namespace Go.Ab
open Classical
def Ru [Ext] {P:Program} {call:Nat->List AV->Option AV} {ops:Array Oper} {d:Option Nat} {T:Nat} {pos:String} {fB:Array Edge} {st:St} (t:Nat) (args:Array Operand) (uF:Array Nat) (g:Nat) (h:st.env t=.v (.func (.func g) #[] #[])):cI P call ops ⟨d,.call ⟨.value (.tmp t),args,uF⟩,T,pos,fB,none⟩ st=cT (bH call g (args.toList.map st.ev) st d) fun e=>some (e.apply st):=by
 rw[eE];simp only[dU,iT,oQ,St.ev,h,KO,and_self,if_true,append_nil];cases bH call g (args.toList.map st.ev) st d<;>rfl
end Go.Ab
namespace Go.Ab.Tryz
open Classical Go.Proofs Go.Ab
def aRA (a:Table) (V:Option (List Int)) (ha:a.iF=ov bF V) (h:V≠some []) (hn:((ol V).length:Int)<1000000):aG prog 194 [.agg (bZ a)]=some (.agg (bZ a)):=by
 rw[cL func194 rfl rfl];simp only[Z8,seval,ha,aMO V h hn,NW];refine eG rfl (by simp only[E8,seval,NW]<;>rfl) (cs:=bZ { a with iF:=rv 5 0 V }) (by simp only[Z8,seval,NW]<;>rfl) ?_
 rw[bP,tZ,mT (e:=23) (sz:=1) (c:=bF) (L:=V) ?h (fun l _=>iG l),cF,cF,<- ha]
 case h =>
  intro l hl;subst hl;simp only[E8,seval,Ac,rl,length_cons,Nat.lt_add_left_iff_pos,Nat.zero_lt_succ,if_true]
def I8 {α:Type} (z:α) (l:List α) (k:Nat) (h:k<l.length):l.take k++[gx z l (k:Int)]=l.take (k+1):=by
 rw[take_succ_eq_append_getElem h];congr 2
 simp[gx,h]
def aRB (E:Option (List rX)) (h:E≠some []) (hn:((ol E).length:Int)<1000000) (hE:∀a∈ol E,∃V,a.eM=ov aM (some V)/\V≠[]) (hA:∀a∈ol E,Er a) :
 aG prog 162 [ov dT E,.v (.func (.func 163) #[] #[])]=some (uo 87 67 dT E):=by
 have pH:∀y∈ol E,Flat y.eM:=fun y m=>(hA y m).fl
 have kg:∀k:Nat,k<(ol E).length->∀(st:St) (d:Option Nat),bH (aG prog) 163 [.agg (iD (gx Jx (ol E) (k:Int)))] st d=some { dst:=d,val:=.agg (iD (gx Jx (ol E) (k:Int)))}:=by
  intro k hk st d;have hm:gx Jx (ol E) (k:Int)∈ol E:=by
   have:gx Jx (ol E) (k:Int)=(ol E)[k]:=by simp[gx,hk]
   rw[this];exact getElem_mem hk
  obtain⟨V,hV,hV2⟩:=hE _ hm
  obtain⟨V',hV',Iv⟩:=hA _ hm
  have hfa:Flat (.agg (iD (gx Jx (ol E) (k:Int)))):=(Ax _).2 (hA _ hm).fl
  have e0:((ol (some V)).length:Int)<1000000:=by
   have h0:ov aM (some V)=ov aM V':=by rw[<- hV,<- hV']
   cases V' with
   | none=>cases h0
   | some W =>
     simp only[ov,AV.sl.injEq] at h0;simp only[ol,Option.getD_some] at Iv ⊢
     omega
  exact kx (aRz _ (some V) hV (by simpa using hV2) e0) (cP hfa) hfa st d
 have hu:([ov dT E,.v (.func (.func 163) #[] #[])]:List AV).any qR=false:=by cases E<;>rfl
 rw[cL func162 rfl hu];simp only[Z8,seval];refine jK (fun m st=>∃k:Nat,(st.env 8=ov dT E/\st.env 9=.v (.int .i64 (ol E).length)/\st.env 10=.v (.int .i64 k)/\st.env 1=.v (.func (.func 163) #[] #[]))/\((k=0/\st.env 5=.v (.slice none 0 0))\/(0<k/\∃j,st.env 5=.own 19 j/\st.heap 19 j=some (.row 87 67 ((ol E).take k).length (dT ((ol E).take k)))))/\k<=(ol E).length/\m=(ol E).length-k)
  (fun e st=>e=.exit 0/\((ol E=[]/\st.env 5=.v (.slice none 0 0))\/(ol E≠[]/\∃j,st.env 5=.own 19 j/\st.heap 19 j=some (.row 87 67 (ol E).length (dT (ol E)))))) (ol E).length ?step ?start ?rest
 case step =>
  rintro m st ⟨k,hI,hR,hk,hm⟩
  by_cases aW:(k:Int)<(ol E).length
  ·have q0:(0:Int)<=k:=by omega
   have hw:=wk (k:=k) (by omega)
   have ht:=I8 Jx (ol E) k (by omega)
   have kk:=kg k (by omega)
   rcases hR with ⟨rC,h5⟩|⟨rC,j,h5,h6⟩
   ·have ht':[gx Jx (ol E) (k:Int)]=(ol E).take (k+1):=by rw[<- ht,show (ol E).take k=[] by rw[rC,take_zero],nil_append]
    apply oN ((ol E).length-(k+1))
    ·simp only[Z8,seval,hI,h5,aW,q0,kk,Ru 15 _ _ 163,LW,hw];rfl
    ·exact⟨k+1,⟨by simp only[E8,seval,hI],by simp only[E8,seval,hI],by simp only[E8,seval],by simp only[E8,seval,hI]⟩,.inr ⟨by omega,_,by simp only[E8,seval]<;>rfl,by rw[<- ht'];simp only[E8,seval]<;>rfl⟩,by omega,rfl⟩
   ·have ao:=fun s g=>Zj ((ol E).take k) (gx Jx (ol E) (k:Int)) s g (by rw[length_take];omega)
    apply oN ((ol E).length-(k+1))
    ·simp only[Z8,seval,hI,h5,h6,aW,q0,kk,Ru 15 _ _ 163,ao,hw];rfl
    ·exact⟨k+1,⟨by simp only[E8,seval,hI],by simp only[E8,seval,hI],by simp only[E8,seval],by simp only[E8,seval,hI]⟩,.inr ⟨by omega,_,by simp only[E8,seval]<;>rfl,by rw[<- ht];simp only[E8,seval]<;>rfl⟩,by omega,rfl⟩
  ·have Cn:k=(ol E).length:=by omega
   have hF:(ol E=[]/\st.env 5=.v (.slice none 0 0))\/(ol E≠[]/\∃j,st.env 5=.own 19 j/\st.heap 19 j=some (.row 87 67 (ol E).length (dT (ol E)))):=by
    rcases hR with ⟨rC,h5⟩|⟨rC,j,h5,h6⟩
    ·exact .inl ⟨eq_nil_of_length_eq_zero (by omega),h5⟩
    ·exact .inr ⟨by intro h0;rw[h0] at Cn;simp at Cn;omega,j,h5,by rw[h6,Cn,take_length]⟩
   apply oT (.exit 0)
   ·simp only[Z8,seval,hI,aW];rfl
   ·exact⟨rfl,by simp only[E8,seval];exact hF⟩
 case start=>exact⟨0,by simp only[E8,seval]<;>exact⟨rfl,rfl,rfl,rfl⟩,.inl ⟨rfl,by simp only[E8,seval]<;>rfl⟩,by omega,by omega⟩
 case rest =>
  rintro e st ⟨rfl,hR⟩
  rcases hR with ⟨h0,h5⟩|⟨h0,j,h5,h6⟩
  ·simp only[Z8,seval,h5];cases E with
   | none=>exact bT rfl (by simp only[E8,seval]<;>rfl) (.v _)
   | some l=>exact absurd (show (some l:Option (List rX))=some [] by rw[show l=[] from h0]) h
  ·simp only[Z8,seval,h5];cases E with
   | none=>exact absurd rfl h0
   | some l=>exact uK rfl (by simp only[E8,seval];rfl) (by simp only[E8,seval];exact h6) (tO _ pH)
def aRF (E:Option (List rX)) (h:E≠some []) (hn:((ol E).length:Int)<1000000) (hE:∀a∈ol E,∃V,a.eM=ov aM (some V)/\V≠[]) (hA:∀a∈ol E,Er a) (st:St) (d:Nat) :
 bH (aG prog) 162 [ov dT E,.v (.func (.func 163) #[] #[])] st (some d)=some { dst:=some d,val:=rv d (st.aQ d) E,new:=XP d (rl 87 67 dT E)} :=
 Hh (fun x m=>by
  rcases mem_cons.1 m with rfl|m
  ·exact AZ E fun y m=>(hA y m).fl
  ·rw[mem_singleton.1 m];exact .v _) (aRB E h hn hE hA)
def aRG (E:Option (List Table)) (h:E≠some []) (hn:((ol E).length:Int)<1000000) (hE:∀a∈ol E,∃V,a.iF=ov bF (some V)/\V≠[]) (hA:∀a∈ol E,rR a) :
 aG prog 193 [ov aN E,.v (.func (.func 194) #[] #[])]=some (uo 118 34 aN E):=by
 have pH:∀y∈ol E,Flat y.iF:=fun y m=>(hA y m).fl
 have kg:∀k:Nat,k<(ol E).length->∀(st:St) (d:Option Nat),bH (aG prog) 194 [.agg (bZ (gx dM (ol E) (k:Int)))] st d=some { dst:=d,val:=.agg (bZ (gx dM (ol E) (k:Int)))}:=by
  intro k hk st d;have hm:gx dM (ol E) (k:Int)∈ol E:=by
   have:gx dM (ol E) (k:Int)=(ol E)[k]:=by simp[gx,hk]
   rw[this];exact getElem_mem hk
  obtain⟨V,hV,hV2⟩:=hE _ hm
  obtain⟨V',hV',Iv⟩:=hA _ hm
  have hfa:Flat (.agg (bZ (gx dM (ol E) (k:Int)))):=(gZ _).2 (hA _ hm).fl
  have e0:((ol (some V)).length:Int)<1000000:=by
   have h0:ov bF (some V)=ov bF V':=by rw[<- hV,<- hV']
   cases V' with
   | none=>cases h0
   | some W =>
     simp only[ov,AV.sl.injEq] at h0;simp only[ol,Option.getD_some] at Iv ⊢
     omega
  exact kx (aRA _ (some V) hV (by simpa using hV2) e0) (cP hfa) hfa st d
 have hu:([ov aN E,.v (.func (.func 194) #[] #[])]:List AV).any qR=false:=by cases E<;>rfl
 rw[cL func193 rfl hu];simp only[Z8,seval];refine jK (fun m st=>∃k:Nat,(st.env 8=ov aN E/\st.env 9=.v (.int .i64 (ol E).length)/\st.env 10=.v (.int .i64 k)/\st.env 1=.v (.func (.func 194) #[] #[]))/\((k=0/\st.env 5=.v (.slice none 0 0))\/(0<k/\∃j,st.env 5=.own 19 j/\st.heap 19 j=some (.row 118 34 ((ol E).take k).length (aN ((ol E).take k)))))/\k<=(ol E).length/\m=(ol E).length-k)
  (fun e st=>e=.exit 0/\((ol E=[]/\st.env 5=.v (.slice none 0 0))\/(ol E≠[]/\∃j,st.env 5=.own 19 j/\st.heap 19 j=some (.row 118 34 (ol E).length (aN (ol E)))))) (ol E).length ?step ?start ?rest
 case step =>
  rintro m st ⟨k,hI,hR,hk,hm⟩
  by_cases aW:(k:Int)<(ol E).length
  ·have q0:(0:Int)<=k:=by omega
   have hw:=wk (k:=k) (by omega)
   have ht:=I8 dM (ol E) k (by omega)
   have kk:=kg k (by omega)
   rcases hR with ⟨rC,h5⟩|⟨rC,j,h5,h6⟩
   ·have ht':[gx dM (ol E) (k:Int)]=(ol E).take (k+1):=by rw[<- ht,show (ol E).take k=[] by rw[rC,take_zero],nil_append]
    apply oN ((ol E).length-(k+1))
    ·simp only[Z8,seval,hI,h5,aW,q0,kk,Ru 15 _ _ 194,JR,hw];rfl
    ·exact⟨k+1,⟨by simp only[E8,seval,hI],by simp only[E8,seval,hI],by simp only[E8,seval],by simp only[E8,seval,hI]⟩,.inr ⟨by omega,_,by simp only[E8,seval]<;>rfl,by rw[<- ht'];simp only[E8,seval]<;>rfl⟩,by omega,rfl⟩
   ·have ao:=fun s g=>Un ((ol E).take k) (gx dM (ol E) (k:Int)) s g (by rw[length_take];omega)
    apply oN ((ol E).length-(k+1))
    ·simp only[Z8,seval,hI,h5,h6,aW,q0,kk,Ru 15 _ _ 194,ao,hw];rfl
    ·exact⟨k+1,⟨by simp only[E8,seval,hI],by simp only[E8,seval,hI],by simp only[E8,seval],by simp only[E8,seval,hI]⟩,.inr ⟨by omega,_,by simp only[E8,seval]<;>rfl,by rw[<- ht];simp only[E8,seval]<;>rfl⟩,by omega,rfl⟩
  ·have Cn:k=(ol E).length:=by omega
   have hF:(ol E=[]/\st.env 5=.v (.slice none 0 0))\/(ol E≠[]/\∃j,st.env 5=.own 19 j/\st.heap 19 j=some (.row 118 34 (ol E).length (aN (ol E)))):=by
    rcases hR with ⟨rC,h5⟩|⟨rC,j,h5,h6⟩
    ·exact .inl ⟨eq_nil_of_length_eq_zero (by omega),h5⟩
    ·exact .inr ⟨by intro h0;rw[h0] at Cn;simp at Cn;omega,j,h5,by rw[h6,Cn,take_length]⟩
   apply oT (.exit 0)
   ·simp only[Z8,seval,hI,aW];rfl
   ·exact⟨rfl,by simp only[E8,seval];exact hF⟩
 case start=>exact⟨0,by simp only[E8,seval]<;>exact⟨rfl,rfl,rfl,rfl⟩,.inl ⟨rfl,by simp only[E8,seval]<;>rfl⟩,by omega,by omega⟩
 case rest =>
  rintro e st ⟨rfl,hR⟩
  rcases hR with ⟨h0,h5⟩|⟨h0,j,h5,h6⟩
  ·simp only[Z8,seval,h5];cases E with
   | none=>exact bT rfl (by simp only[E8,seval]<;>rfl) (.v _)
   | some l=>exact absurd (show (some l:Option (List Table))=some [] by rw[show l=[] from h0]) h
  ·simp only[Z8,seval,h5];cases E with
   | none=>exact absurd rfl h0
   | some l=>exact uK rfl (by simp only[E8,seval];rfl) (by simp only[E8,seval];exact h6) (kD _ pH)
def aRH (E:Option (List Table)) (h:E≠some []) (hn:((ol E).length:Int)<1000000) (hE:∀a∈ol E,∃V,a.iF=ov bF (some V)/\V≠[]) (hA:∀a∈ol E,rR a) (st:St) (d:Nat) :
 bH (aG prog) 193 [ov aN E,.v (.func (.func 194) #[] #[])] st (some d)=some { dst:=some d,val:=rv d (st.aQ d) E,new:=XP d (rl 118 34 aN E)} :=
 Hh (fun x m=>by
  rcases mem_cons.1 m with rfl|m
  ·exact kA E fun y m=>(hA y m).fl
  ·rw[mem_singleton.1 m];exact .v _) (aRG E h hn hE hA)
def SO (f:Nat->AV->AV × List oA) (c:Nat) (xs ys:List AV):rA f c (xs++ys)=((rA f c xs).1++(rA f (c+(rA f c xs).2.length) ys).1,(rA f c xs).2++(rA f (c+(rA f c xs).2.length) ys).2):=by
 induction xs generalizing c with
 | nil=>simp[rA]
 | cons x xs ih=>simp only[cons_append,rA,ih,length_append,Nat.add_assoc,append_assoc]
def Lu (d c:Nat) {x:AV} (h:Flat x):Am d c x=(x,[]):=by cases h<;>rfl
def Ad (d c:Nat) {xs:List AV} (h:∀x∈xs,Flat x):rA (Am d) c xs=(xs,[]):=by
 induction xs generalizing c with
 | nil=>rfl
 | cons x xs ih=>simp only[rA,Lu d c (h x (by simp)),length_nil,Nat.add_zero,ih c fun y m=>h y (by simp[m]),nil_append]
def MB {α:Type} (d c e sz:Nat) (cs:List α->List AV) (L:Option (List α)):rA (Am d) c [uo e sz cs L]=([rv d c L],rl e sz cs L):=by cases L<;>rfl
def I9 {call:Nat->List AV->Option AV} {g d:Nat} {args cs:List AV} {st:St} (hf:∀x∈args,Flat x) (h:call g args=some (.agg cs)) (hn:Flat (.agg cs)\/(rA (Am d) (st.aQ d) cs).2≠[]) :
 bH call g args st (some d)=some { dst:=some d,val:=.agg (rA (Am d) (st.aQ d) cs).1,new:=XP d (rA (Am d) (st.aQ d) cs).2 }:=by
 unfold bH;rw[if_pos hf,h,cF];unfold iZ;by_cases hF:Flat (.agg cs)
 ·have hc:∀x∈cs,Flat x:=by cases hF with|agg _ h=>exact h
  rw[if_pos hF,Ad d _ hc];rfl
 ·rw[if_neg hF];have h2:=hn.resolve_left hF
  simp only[XP,if_neg h2];rfl
def FR (st:St) (cs:List AV):Option (List AV):=cK (cs.map (kX st))
def SP (st:St) (a b:List AV):FR st (a++b)=cT (FR st a) fun x=>cT (FR st b) fun y=>some (x++y):=by
 unfold FR;induction a with
 | nil=>simp[cK,cT];cases cK (b.map (kX st))<;>rfl
 | cons c a ih =>
   simp only[cons_append,map_cons];cases kX st c with
   | none=>rfl
   | some c' =>
     simp only[cK,ih];cases cK (a.map (kX st))<;>simp[cT]<;>cases cK (b.map (kX st))<;>rfl
def Fg {st:St} {cs:List AV} (h:∀c∈cs,Flat c):FR st cs=some cs:=by
 unfold FR;induction cs with
 | nil=>rfl
 | cons c cs ih =>
   have h1:kX st c=some c:=if_pos (h c (by simp))
   simp only[map_cons,h1,cK,ih fun x hx=>h x (by simp[hx]),Option.map_some]
def vC {st:St} {x y:AV} (h:kX st x=some y):FR st [x]=some [y]:=by simp only[FR,map_cons,map_nil,h,cK,aAo]
def JS {st:St} {cs ys:List AV} (h:FR st cs=some ys):Eg st (.agg cs)=some (.agg ys):=by
 show (cK (cs.map (kX st))).map AV.agg=_
 rw[show cK (cs.map (kX st))=some ys from h];rfl
def SQ {x:AV} (h:Flat x):iB x=[]:=by cases h<;>rfl
def vD {cs:List AV} (h:∀c∈cs,Flat c):cs.flatMap iB=[]:=by
 induction cs with
 | nil=>rfl
 | cons c cs ih=>rw[flatMap_cons,SQ (h c (by simp)),ih fun x hx=>h x (by simp[hx]),nil_append]
def JT {α:Type} (d k:Nat) (L:Option (List α)):iB (rv d k L)=if L.isSome then [(d,k)] else []:=by cases L<;>rfl
def aBw (st:St) (g:Nat):st.ev (.func g)=.v (.func (.func g) #[] #[]):=rfl
def aRI (T:Option (List Table)) (h:T≠some []) (hn:((ol T).length:Int)<1000000) (hE:∀a∈ol T,∃V,a.iF=ov bF (some V)/\V≠[]) (hA:∀a∈ol T,rR a):aG prog 166 [ov aN T]=some (uo 118 34 aN T):=by
 have pH:∀y∈ol T,Flat y.iF:=fun y m=>(hA y m).fl
 rw[cL func166 rfl (by cases T<;>rfl)]
 simp only[Z8,seval,aBw,aRH T h hn hE hA,NW];cases T with
 | none=>exact bT rfl (by simp only[E8,seval]<;>rfl) (.v _)
 | some l=>exact uK rfl (by simp only[E8,seval]<;>rfl) (by simp only[E8,seval,Ac,rl,length_cons,Nat.lt_add_left_iff_pos,Nat.zero_lt_succ,if_true]<;>rfl) (kD _ pH)
def aRJ (T:Option (List Table)) (h:T≠some []) (hn:((ol T).length:Int)<1000000) (hE:∀a∈ol T,∃V,a.iF=ov bF (some V)/\V≠[]) (hA:∀a∈ol T,rR a) (st:St) (d:Nat) :
 bH (aG prog) 166 [ov aN T] st (some d)=some { dst:=some d,val:=rv d (st.aQ d) T,new:=XP d (rl 118 34 aN T)}:=Hh (cP (kA T fun y m=>(hA y m).fl)) (aRI T h hn hE hA)
def aRK (L:Option (List kN)) (Q:Option (List Int)) (h1:L≠some []) (h2:Q≠some []) (n1:((ol L).length:Int)<1000000) (n2:((ol Q).length:Int)<1000000) :
 aG prog 161 [.agg (eQ ⟨ov dE L,ov aM Q⟩)]=some (.agg (eQ ⟨uo 100 34 dE L,uo 3 1 aM Q⟩)):=by
 rw[cL func161 rfl rfl];simp only[Z8,seval,aRv L h1 n1,aMP Q h2 n2,NW];refine AM rfl (.inl rfl) rfl (x:=.agg (eQ ⟨rv 5 0 L,rv 8 0 Q⟩)) (by simp only[bY,Z8,seval,NW]) ?_ (JS ?_)
 ·simp only[lX,jI,eQ,flatMap_append,flatMap_cons,flatMap_nil,append_nil,JT];cases L<;>cases Q<;>simp
 ·unfold eQ;rw[SP,vC (sC (e:=100) (sz:=34) (c:=dE) ?_ fun l _=>nN l),cF,vC (sC (e:=3) (sz:=1) (c:=aM) ?_ fun l _=>gG l),cF]
  ·intro l hl;subst hl;simp only[E8,seval,Ac,rl,length_cons,Nat.lt_add_left_iff_pos,Nat.zero_lt_succ,if_true]<;>rfl
  ·intro l hl;subst hl;simp only[E8,seval,Ac,rl,length_cons,Nat.lt_add_left_iff_pos,Nat.zero_lt_succ,if_true]<;>rfl
def CC (d c:Nat) (L:Option (List kN)) (Q:Option (List Int)):rA (Am d) c (eQ ⟨uo 100 34 dE L,uo 3 1 aM Q⟩)=(eQ ⟨rv d c L,rv d (c+(rl 100 34 dE L).length) Q⟩,rl 100 34 dE L++rl 3 1 aM Q):=by
 unfold eQ;rw[SO,MB,MB]
def aRL (L:Option (List kN)) (Q:Option (List Int)) (h1:L≠some []) (h2:Q≠some []) (n1:((ol L).length:Int)<1000000) (n2:((ol Q).length:Int)<1000000) (st:St) (d:Nat) :
 bH (aG prog) 161 [.agg (eQ ⟨ov dE L,ov aM Q⟩)] st (some d)=some { dst:=some d,val:=.agg (eQ ⟨rv d (st.aQ d) L,rv d (st.aQ d+(rl 100 34 dE L).length) Q⟩),new:=XP d (rl 100 34 dE L++rl 3 1 aM Q)}:=by
 rw[I9 (cP (.agg _ (pK _ (pM L) (bQ Q)))) (aRK L Q h1 h2 n1 n2) ?_,CC];rw[CC];cases L with
 | some l=>exact .inr (by simp[rl])
 | none =>
   cases Q with
   | some q=>exact .inr (by simp[rl])
   | none=>exact .inl (.agg _ (pK _ (.v _) (.v _)))
def XQ (s:aL) (b l q e o n t:AV):aL:={ s with cFg:={ s.cFg with iF:=b },fP:=⟨l,q⟩,cM:=⟨e,o⟩,tree:=⟨n⟩,tables:=t }
def ZW {st:St} (s:aL) {b l q e o n t b' l' q' e' o' n' t':AV} (h1:kX st b=some b') (h2:kX st l=some l') (h3:kX st q=some q') (h4:kX st e=some e') (h5:kX st o=some o') (h6:kX st n=some n') (h7:kX st t=some t') :
 FR st (aA (XQ s b l q e o n t))=some (aA (XQ s b' l' q' e' o' n' t')):=by
 simp only[XQ,aA,bX,eQ,jZ,nA,SP,vC h1,vC h2,vC h3,vC h4,vC h5,vC h6,vC h7,Fg (vE _),Fg (eD _),Fg (iQ _),Fg (dY _),Fg (lG _),cF]
def FU (s:aL) (b l q e o n t:AV):(aA (XQ s b l q e o n t)).flatMap iB=iB b++(iB l++(iB q++(iB e++(iB o++(iB n++iB t))))):=by
 simp only[XQ,aA,bX,eQ,jZ,nA,flatMap_append,flatMap_cons,flatMap_nil,append_nil,vD (vE _),vD (eD _),vD (iQ _),vD (dY _),vD (lG _),nil_append,append_assoc]
def Hi {α:Type} (e sz:Nat) (c:List α->List AV) (l:List α):rl e sz c (some l)=[.row e sz l.length (c l)]:=rfl
def aRM {s:aL} {v:SV} (hs:SD s v) (gJ:NEv v) (hB:v.B≠some []) (hL:v.L≠some []) (ht:0<v.ns.length) :
 aG prog 109 [.agg (aA s)]=some (.agg (aA (XQ s (uo 23 1 bF v.B) (uo 100 34 dE v.L) (uo 3 1 aM v.Q) (uo 87 67 dT v.E) (uo 74 238 aH v.O) (.uniq 76 240 v.ns.length (bV v.ns)) (uo 118 34 aN v.T)))):=by
 have hv:s.fP=⟨ov dE v.L,ov aM v.Q⟩:=by
  have h1:=hs.dS
  have h2:=hs.gA
  cases hc:s.fP with
  | mk a b=>rw[hc] at h1 h2;simp only at h1 h2;rw[h1,h2]
 rw[cL func109 rfl rfl];simp only[Z8,seval,hs.iF,hv,hs.early,hs.bN,hs.tree,hs.tables,aBw,NW,aMO v.B hB hs.nB,aRL v.L v.Q hL gJ.q hs.nL hs.nQ,aRF v.E gJ.e hs.nE gJ.ea hs.eV,aRy v.O gJ.o hs.nO,aPx v.ns ht hs.nn,aRJ v.T gJ.t hs.nT gJ.tb hs.tB];refine AM rfl (.inl rfl) rfl (x:=.agg (aA (XQ s (rv 6 0 v.B) (rv 11 0 v.L) (rv 11 (rl 100 34 dE v.L).length v.Q) (rv 16 0 v.E) (rv 22 0 v.O) (.own 27 0) (rv 31 0 v.T)))) ?x1 ?x2 (JS (ZW s ?b1 ?l1 ?q1 ?e1 ?o1 ?n1 ?t1))
 case x1=>simp only[bY,Z8,seval,NW,XQ]
 case x2 =>
  show ((aA _).flatMap iB).Nodup
  rw[FU];simp only[JT,show ∀a b,iB (.own a b)=[(a,b)] from fun _ _=>rfl]
  cases v.B<;>cases hvl:v.L<;>cases v.Q<;>cases v.E<;>cases v.O<;>cases v.T<;>simp[rl]
 case b1=>exact sC (fun l hl=>by simp only[E8,seval,NW,hl,Hi,length_cons,length_nil,Nat.lt_add_left_iff_pos,Nat.zero_lt_succ,if_true]<;>rfl) fun l _=>iG l
 case l1 =>
  refine sC (fun l hl=>?_) fun l _=>nN l
  simp only[E8,seval,NW,hl,Hi];simp
 case q1 =>
  refine sC (fun l hl=>?_) fun l _=>gG l
  simp only[E8,seval,NW,hl,Hi];simp
 case e1=>exact sC (fun l hl=>by simp only[E8,seval,NW,hl,Hi,length_cons,length_nil,Nat.lt_add_left_iff_pos,Nat.zero_lt_succ,if_true]<;>rfl) fun l hl=>tO l fun y m=>(hs.eV y (by rw[hl];exact m)).fl
 case o1=>exact sC (fun l hl=>by simp only[E8,seval,NW,hl,Hi,length_cons,length_nil,Nat.lt_add_left_iff_pos,Nat.zero_lt_succ,if_true]<;>rfl) fun l _=>lE l
 case n1=>exact sC (L:=some v.ns) (fun l hl=>by cases hl;simp only[E8,seval,NW,Hi,length_cons,length_nil,Nat.lt_add_left_iff_pos,Nat.zero_lt_succ,if_true]<;>rfl) fun l _=>iU l
 case t1=>exact sC (fun l hl=>by simp only[E8,seval,NW,hl,Hi,length_cons,length_nil,Nat.lt_add_left_iff_pos,Nat.zero_lt_succ,if_true]<;>rfl) fun l hl=>kD l fun y m=>(hs.tB y (by rw[hl];exact m)).fl
def aBx (d c e sz n:Nat) (cs:List AV):rA (Am d) c [.uniq e sz n cs]=([.own d c],[.row e sz n cs]):=rfl
def My (v:SV):List oA:=rl 23 1 bF v.B++(rl 100 34 dE v.L++(rl 3 1 aM v.Q++(rl 87 67 dT v.E++(rl 74 238 aH v.O++([.row 76 240 v.ns.length (bV v.ns)]++rl 118 34 aN v.T)))))
def nB (v:SV):Nat:=(rl 23 1 bF v.B).length
def nL (v:SV):Nat:=nB v+(rl 100 34 dE v.L).length
def nQ (v:SV):Nat:=nL v+(rl 3 1 aM v.Q).length
def nE (v:SV):Nat:=nQ v+(rl 87 67 dT v.E).length
def nO (v:SV):Nat:=nE v+(rl 74 238 aH v.O).length
def Rv (s:aL) (v:SV) (d c:Nat):aL:=XQ s (rv d c v.B) (rv d (c+nB v) v.L) (rv d (c+nL v) v.Q) (rv d (c+nQ v) v.E) (rv d (c+nE v) v.O) (.own d (c+nO v)) (rv d (c+nO v+1) v.T)
def CD (s:aL) (v:SV) (d c:Nat):rA (Am d) c (aA (XQ s (uo 23 1 bF v.B) (uo 100 34 dE v.L) (uo 3 1 aM v.Q) (uo 87 67 dT v.E) (uo 74 238 aH v.O) (.uniq 76 240 v.ns.length (bV v.ns)) (uo 118 34 aN v.T)))=(aA (Rv s v d c),My v):=by
 simp only[XQ,Rv,aA,bX,eQ,jZ,nA,SO,MB,aBx,Ad d _ (vE _),Ad d _ (eD _),Ad d _ (iQ _),Ad d _ (dY _),Ad d _ (lG _),nil_append,length_nil,Nat.add_zero,append_assoc,length_append,length_cons,My,nO,nE,nQ,nL,nB,Nat.add_assoc,append_nil]
def aRN {s:aL} {v:SV} (hs:SD s v) (gJ:NEv v) (hB:v.B≠some []) (hL:v.L≠some []) (ht:0<v.ns.length) (st:St) (d:Nat) :
 bH (aG prog) 109 [.agg (aA s)] st (some d)=some { dst:=some d,val:=.agg (aA (Rv s v d (st.aQ d))),new:=some (d,My v)}:=by
 have h0:My v≠[]:=by simp[My]
 rw[I9 (cP hs.flat) (aRM hs gJ hB hL ht) (by rw[CD];exact .inr h0),CD]
 simp only[XP,if_neg h0]
def SR (x:Option Nat) (y:AV) (d:Nat) (v:SV) (st:St):({ dst:=x,val:=y,new:=some (d,My v)}:qZ).apply st=(st.news d (My v)).put x y:=rfl
def MC {α:Type} (d k:Nat) (l:List α):rv d k (some l)=.own d k:=rfl
def aEL {α:Type} (d k:Nat):rv d k (none:Option (List α))=.v (.slice none 0 0):=rfl
def oJ {α:Type} (a b:List α) (n i:Nat) (h:n=a.length+i):(a++b)[n]? = b[i]?:=by
 rw[h,getElem?_append_right (by omega)]
 congr 1
 omega
def aMR (v:SV) (l:List Int) (h:v.B=some l):(My v)[0]? = some (.row 23 1 l.length (bF l)):=by simp[My,h,rl]
def aMS (v:SV) (l:List kN) (h:v.L=some l):(My v)[nB v]? = some (.row 100 34 l.length (dE l)):=by
 unfold My;rw[oJ _ _ _ 0 (by simp[nB]),h];rfl
def aMT (v:SV) (l:List Int) (h:v.Q=some l):(My v)[nL v]? = some (.row 3 1 l.length (aM l)):=by
 unfold My;rw[oJ _ _ _ _ (show nL v=_+_ from rfl),oJ _ _ _ 0 (by simp),h];rfl
def aMU (v:SV) (l:List rX) (h:v.E=some l):(My v)[nQ v]? = some (.row 87 67 l.length (dT l)):=by
 unfold My;rw[oJ _ _ _ ((rl 100 34 dE v.L).length+(rl 3 1 aM v.Q).length) (by simp[nQ,nL,nB,Nat.add_assoc]),oJ _ _ _ _ rfl,oJ _ _ _ 0 (by simp),h];rfl
def aIw (v:SV) (l:List Block) (h:v.O=some l):(My v)[nE v]? = some (.row 74 238 l.length (aH l)):=by
 unfold My;rw[oJ _ _ _ ((rl 100 34 dE v.L).length+((rl 3 1 aM v.Q).length+(rl 87 67 dT v.E).length)) (by simp[nE,nQ,nL,nB,Nat.add_assoc]),oJ _ _ _ _ rfl,oJ _ _ _ _ rfl,oJ _ _ _ 0 (by simp),h];rfl
def aIx (v:SV):(My v)[nO v]? = some (.row 76 240 v.ns.length (bV v.ns)):=by
 unfold My;rw[oJ _ _ _ ((rl 100 34 dE v.L).length+((rl 3 1 aM v.Q).length+((rl 87 67 dT v.E).length+(rl 74 238 aH v.O).length))) (by simp[nO,nE,nQ,nL,nB,Nat.add_assoc]),oJ _ _ _ _ rfl,oJ _ _ _ _ rfl,oJ _ _ _ _ rfl,oJ _ _ _ 0 (by simp)];rfl
def aIy (v:SV) (l:List Table) (h:v.T=some l):(My v)[nO v+1]? = some (.row 118 34 l.length (aN l)):=by
 unfold My;rw[oJ _ _ _ ((rl 100 34 dE v.L).length+((rl 3 1 aM v.Q).length+((rl 87 67 dT v.E).length+((rl 74 238 aH v.O).length+1)))) (by simp[nO,nE,nQ,nL,nB,Nat.add_assoc]),oJ _ _ _ _ rfl,oJ _ _ _ _ rfl,oJ _ _ _ _ rfl,oJ _ _ _ _ rfl,oJ _ _ _ 0 (by simp),h];rfl
def Z6 (x:Int):(x != x)=false:=by simp
def beI (x:Int):(x == x)=true:=by simp
def aRO (o:Option (List Int)) (hn:((ol o).length:Int)<1000000):aG prog 103 [ov bF o,ov bF o]=some (.v (.bool true)):=by
 rw[cL func103 rfl (by cases o<;>rfl)]
 refine iA ?_
 simp only[Z8,seval,Z6];refine cA (fun m st=>∃k:Nat,(st.env 0=ov bF o/\st.env 1=ov bF o/\st.env 5=.v (.int .i64 k))/\k<=(ol o).length/\m=(ol o).length-k)
  (fun e st=>e=.exit 0) (ol o).length ?step ?start ?rest
 case step =>
  rintro m st ⟨k,hI,hk,hm⟩
  by_cases aW:(k:Int)<(ol o).length
  ·have q0:(0:Int)<=k:=by omega
   have hw:=wk (k:=k) (by omega)
   apply oN ((ol o).length-(k+1))
   ·simp only[Z8,seval,hI,aW,q0,Z6,hw];rfl
   ·exact⟨k+1,by simp only[E8,seval,hI],by omega,rfl⟩
  ·apply oT (.exit 0)
   ·simp only[Z8,seval,hI,aW];rfl
   ·exact rfl
 case start=>exact⟨0,by simp only[E8,seval]<;>exact⟨rfl,rfl,rfl⟩,by omega,by omega⟩
 case rest =>
  rintro e st rfl
  simp only[Z8,seval];exact⟨_,bT rfl,rfl⟩
def aEp (o:Option (List Int)) (hn:((ol o).length:Int)<1000000):KC 103 [ov bF o,ov bF o] (.v (.bool true)):=fun _ _=>bE (bB (dZ o) (dZ o)) (aRO o hn) (.v _)
def aRP (o:Option (List kN)) (hn:((ol o).length:Int)<1000000):aG prog 104 [ov dE o,ov dE o]=some (.v (.bool true)):=by
 rw[cL func104 rfl (by cases o<;>rfl)]
 refine iA ?_
 simp only[Z8,seval,Z6];refine cA (fun m st=>∃k:Nat,(st.env 0=ov dE o/\st.env 1=ov dE o/\st.env 5=.v (.int .i64 k))/\k<=(ol o).length/\m=(ol o).length-k)
  (fun e st=>e=.exit 0) (ol o).length ?step ?start ?rest
 case step =>
  rintro m st ⟨k,hI,hk,hm⟩
  by_cases aW:(k:Int)<(ol o).length
  ·have q0:(0:Int)<=k:=by omega
   have hw:=wk (k:=k) (by omega)
   apply oN ((ol o).length-(k+1))
   ·simp only[Z8,seval,hI,aW,q0,Z6,hw];rfl
   ·exact⟨k+1,by simp only[E8,seval,hI],by omega,rfl⟩
  ·apply oT (.exit 0)
   ·simp only[Z8,seval,hI,aW];rfl
   ·exact rfl
 case start=>exact⟨0,by simp only[E8,seval]<;>exact⟨rfl,rfl,rfl⟩,by omega,by omega⟩
 case rest =>
  rintro e st rfl
  simp only[Z8,seval];exact⟨_,bT rfl,rfl⟩
def aRQ (o:Option (List kN)) (hn:((ol o).length:Int)<1000000):KC 104 [ov dE o,ov dE o] (.v (.bool true)):=fun _ _=>bE (bB (pM o) (pM o)) (aRP o hn) (.v _)
def aMV (o:Option (List Int)) (hn:((ol o).length:Int)<1000000):aG prog 105 [ov aM o,ov aM o]=some (.v (.bool true)):=by
 rw[cL func105 rfl (by cases o<;>rfl)]
 refine iA ?_
 simp only[Z8,seval,Z6];refine cA (fun m st=>∃k:Nat,(st.env 0=ov aM o/\st.env 1=ov aM o/\st.env 5=.v (.int .i64 k))/\k<=(ol o).length/\m=(ol o).length-k)
  (fun e st=>e=.exit 0) (ol o).length ?step ?start ?rest
 case step =>
  rintro m st ⟨k,hI,hk,hm⟩
  by_cases aW:(k:Int)<(ol o).length
  ·have q0:(0:Int)<=k:=by omega
   have hw:=wk (k:=k) (by omega)
   apply oN ((ol o).length-(k+1))
   ·simp only[Z8,seval,hI,aW,q0,Z6,hw];rfl
   ·exact⟨k+1,by simp only[E8,seval,hI],by omega,rfl⟩
  ·apply oT (.exit 0)
   ·simp only[Z8,seval,hI,aW];rfl
   ·exact rfl
 case start=>exact⟨0,by simp only[E8,seval]<;>exact⟨rfl,rfl,rfl⟩,by omega,by omega⟩
 case rest =>
  rintro e st rfl
  simp only[Z8,seval];exact⟨_,bT rfl,rfl⟩
def aG5 (o:Option (List Int)) (hn:((ol o).length:Int)<1000000):KC 105 [ov aM o,ov aM o] (.v (.bool true)):=fun _ _=>bE (bB (bQ o) (bQ o)) (aMV o hn) (.v _)
def aRR (a:rX) (V:Option (List Int)) (ha:a.eM=ov aM V) (hn:((ol V).length:Int)<1000000):aG prog 108 [.agg (iD a),.agg (iD a)]=some (.v (.bool true)):=by
 rw[cL func108 rfl rfl];refine iA ?_
 simp only[Z8,seval,ha,beI,aG5 V hn];exact⟨_,bT rfl,rfl⟩
def aRS (a:rX) (h:Er a) (st:St) (d:Option Nat):bH (aG prog) 108 [.agg (iD a),.agg (iD a)] st d=some { dst:=d,val:=.v (.bool true)}:=by
 obtain⟨V,ha,hl⟩:=h
 have hf:Flat (.agg (iD a)):=(Ax a).2 (by rw[ha];exact bQ V)
 exact bE (bB hf hf) (aRR a V ha hl) (.v _)
def aRT (a:Table) (V:Option (List Int)) (ha:a.iF=ov bF V) (hn:((ol V).length:Int)<1000000):aG prog 159 [.agg (bZ a),.agg (bZ a)]=some (.v (.bool true)):=by
 rw[cL func159 rfl rfl];refine iA ?_
 simp only[Z8,seval,ha,beI,aEp V hn];exact⟨_,bT rfl,rfl⟩
def aRU (a:Table) (h:rR a) (st:St) (d:Option Nat):bH (aG prog) 159 [.agg (bZ a),.agg (bZ a)] st d=some { dst:=d,val:=.v (.bool true)}:=by
 obtain⟨V,ha,hl⟩:=h
 have hf:Flat (.agg (bZ a)):=(gZ a).2 (by rw[ha];exact dZ V)
 exact bE (bB hf hf) (aRT a V ha hl) (.v _)
def aRV (o:Option (List Table)) (hn:((ol o).length:Int)<1000000) (hA:∀a∈ol o,rR a):aG prog 107 [ov aN o,ov aN o]=some (.v (.bool true)):=by
 rw[cL func107 rfl (by cases o<;>rfl)]
 refine iA ?_
 simp only[Z8,seval,Z6,beI];refine cA (fun m st=>∃k:Nat,(st.env 0=ov aN o/\st.env 1=ov aN o/\st.env 5=.v (.int .i64 k))/\k<=(ol o).length/\m=(ol o).length-k)
  (fun e st=>e=.exit 0) ((ol o).length) ?step ?start ?rest
 case step =>
  rintro m st ⟨k,hI,hk,hm⟩
  by_cases aW:(k:Int)<((ol o).length:Nat)
  ·have q0:(0:Int)<=k:=by omega
   have hw:=wk (k:=k) (by omega)
   have kk:=aRU _ (hA _ (nC (z:=dM) q0 aW))
   apply oN ((ol o).length-(k+1))
   ·simp only[Z8,seval,hI,aW,q0,kk,Z6,hw,beI];rfl
   ·exact⟨k+1,by simp only[E8,seval,hI],by omega,rfl⟩
  ·apply oT (.exit 0)
   ·simp only[Z8,seval,hI,aW,beI];rfl
   ·exact rfl
 case start=>exact⟨0,by simp only[E8,seval]<;>exact⟨rfl,rfl,rfl⟩,by omega,by omega⟩
 case rest =>
  rintro e st rfl
  simp only[Z8,seval];exact⟨_,bT rfl,rfl⟩
def aRW (o:Option (List Table)) (hn:((ol o).length:Int)<1000000) (hA:∀a∈ol o,rR a) (st:St) (d:Option Nat):bH (aG prog) 107 [ov aN o,ov aN o] st d=some { dst:=d,val:=.v (.bool true)} :=
 bE (bB (kA o fun y m=>(hA y m).fl) (kA o fun y m=>(hA y m).fl)) (aRV o hn hA) (.v _)
end Go.Ab.Tryz
namespace Go.Ab.Tryz
open Classical Go.Proofs Go.Ab
end Go.Ab.Tryz
namespace Go.Ab.Tryz
open Classical Go.Proofs Go.Ab
def nS (v:SV):Nat:=(My v).length
def nR (v:SV) (Q:Option (List Request)):Nat:=nS v+(rl 63 35 aF Q).length
def aBy (v:SV) (j:Nat):(if j<(My v).length then (My v)[j]? else none)=(My v)[j]?:=by
 split
 ·rfl
 ·rw[getElem?_eq_none (by omega)]
def aIz {st:St} {s:aL} {v:SV} (hs:SD s v) {d c:Nat} (hh:∀j,j<nS v->st.heap d (c+j)=(My v)[j]?):Yd st (aA (Rv s v d c))=some (aA s):=by
 have ix:∀ {j:Nat} {e:oA},(My v)[j]? = some e->st.heap d (c+j)=some e:=fun h=>by rw[hh _ (List.getElem?_eq_some_iff.1 h).1,h]
 rw[gH];simp only[Rv,XQ];rw[mT (e:=23) (sz:=1) (c:=bF) (fun l hl=>by have:=ix (aMR v l hl);rwa [Nat.add_zero] at this) (fun l _=>iG l),cF,
  mT (e:=100) (sz:=34) (c:=dE) (fun l hl=>ix (aMS v l hl)) (fun l _=>nN l),cF,
  mT (e:=3) (sz:=1) (c:=aM) (fun l hl=>ix (aMT v l hl)) (fun l _=>gG l),cF,
  mT (e:=87) (sz:=67) (c:=dT) (fun l hl=>ix (aMU v l hl)) (fun l hl=>tO l fun y m=>(hs.eV y (by rw[hl];exact m)).fl),cF,
  mT (e:=74) (sz:=238) (c:=aH) (fun l hl=>ix (aIw v l hl)) (fun l _=>lE l),cF,
  <- MC d (c+nO v) v.ns,mT (e:=76) (sz:=240) (c:=bV) (fun l hl=>by cases hl;exact ix (aIx v)) (fun l _=>iU l),cF,
  mT (e:=118) (sz:=34) (c:=aN) (fun l hl=>by have:=ix (aIy v l hl);rwa [<- Nat.add_assoc] at this) (fun l hl=>kD l fun y m=>(hs.tB y (by rw[hl];exact m)).fl),cF]
 have hn:ov bV (some v.ns)=s.tree.nodes:=by rw[hs.tree];rfl
 rw[hn,<- hs.iF,<- hs.dS,<- hs.gA,<- hs.early,<- hs.bN,<- hs.tables]
end Go.Ab.Tryz
namespace Go.Ab.Tryz
open Classical Go.Proofs Go.Ab
end Go.Ab.Tryz
namespace Go.Ab.Tryz
open Classical Go.Proofs Go.Ab
def aMW:aB 4 77 (some 54)=[]:=rfl
def x42 {s:aL} {v:SV} (hs:SD s v):∃r,aG prog 42 [.agg (aA s),.agg (aA s)]=some r/\r=.v (.bool true):=by
 have pH:=hs.flat
 rw[cG func42 rfl rfl]
 have kB:=aEp v.B hs.nB
 have kL:=aRQ v.L hs.nL
 have kQ:=aG5 v.Q hs.nQ
 have kn:=aPg v.ns v.ns hs.nn
 have kT:=aRW v.T hs.nT hs.tB
 simp only[ZG,seval,ZX,aMW,hs.iF,hs.dS,hs.gA,hs.early,hs.bN,hs.tree,hs.tables,Z6,beI,kB,kL,kQ,kn,kT,decide_true,Bool.not_true,mN,mO];refine kZ (fun m st=>∃k:Nat,(st.env 2=.ptr 2 0 0/\st.heap 2 0=some (.cells (aA s))/\st.env 3=.ptr 3 0 0/\st.heap 3 0=some (.cells (aA s))/\st.env 7=.v (.int .i64 k))/\k<=(ol v.E).length/\m=(ol v.E).length-k)
  (fun e st=>e=.exit 0/\(st.env 2=.ptr 2 0 0/\st.heap 2 0=some (.cells (aA s))/\st.env 3=.ptr 3 0 0/\st.heap 3 0=some (.cells (aA s)))) (ol v.E).length ?step ?start ?rest
 case step =>
  rintro m st ⟨k,hI,hk,hm⟩
  have hn:=hs.nE
  by_cases aW:(k:Int)<(ol v.E).length
  ·have q0:(0:Int)<=k:=by omega
   have hw:=wk (k:=k) (by omega)
   have kk:=aRS _ (hs.eV _ (nC (z:=Jx) q0 aW))
   apply Dr ((ol v.E).length-(k+1))
   ·simp only[ZG,seval,ZX,hs.early,hI,aW,q0,kk,Z6,Bool.not_true,hw];rfl
   ·exact⟨k+1,by simp only[E8,seval,hI],by omega,rfl⟩
  ·apply IY (.exit 0)
   ·simp only[ZG,seval,ZX,hs.early,hI,aW];rfl
   ·exact⟨rfl,by simp only[E8,seval,hI]⟩
 case start=>exact⟨0,by simp only[E8,seval]<;>exact⟨rfl,rfl,rfl,rfl,rfl⟩,by omega,by omega⟩
 case rest =>
  rintro e st ⟨rfl,hI⟩
  simp only[ZG,seval,ZX,hI];refine kZ (fun m st=>∃k:Nat,(st.env 2=.ptr 2 0 0/\st.heap 2 0=some (.cells (aA s))/\st.env 3=.ptr 3 0 0/\st.heap 3 0=some (.cells (aA s))/\st.env 8=.v (.int .i64 k))/\k<=(ol v.O).length/\m=(ol v.O).length-k)
   (fun e st=>e=.exit 2) (ol v.O).length ?RJ ?BL ?BM
  case RJ =>
   rintro m st ⟨k,hI,hk,hm⟩
   have hn:=hs.nO
   by_cases aW:(k:Int)<(ol v.O).length
   ·have q0:(0:Int)<=k:=by omega
    have hw:=wk (k:=k) (by omega)
    apply Dr ((ol v.O).length-(k+1))
    ·simp only[ZG,seval,ZX,hs.bN,hI,aW,q0,Z6,decide_true,Bool.not_true,hw];rfl
    ·exact⟨k+1,by simp only[E8,seval,hI],by omega,rfl⟩
   ·apply IY (.exit 2)
    ·simp only[ZG,seval,ZX,hs.bN,hI,aW];rfl
    ·exact rfl
  case BL=>exact⟨0,by simp only[E8,seval,hI]<;>exact⟨rfl,rfl,rfl,rfl,rfl⟩,by omega,by omega⟩
  case BM =>
   rintro e st rfl
   simp only[ZG,seval,ZX];exact⟨_,bT rfl,rfl⟩
def k42 {s:aL} {v:SV} (hs:SD s v) (st:St) (d:Option Nat):bH (aG prog) 42 [.agg (aA s),.agg (aA s)] st d=some { dst:=d,val:=.v (.bool true)}:=by
 obtain⟨r,h,e⟩:=x42 hs
 subst e;exact bE (bB hs.flat hs.flat) h (.v _)
end Go.Ab.Tryz
namespace Go.Ab.Tryz
open Classical Go.Proofs Go.Ab
open Classical Go.Proofs Go.Ab
open Classical Go.Proofs Go.Ab
end Go.Ab.Tryz
namespace Go.Ab.Tryz
open Classical Go.Proofs Go.Ab
def beB (x:Bool):(x == x)=true:=by simp
def TI.lists {t:State} {v:SV} {Q R:Option (List Request)} {q m:Int} (T:TI t v Q R q m):v.B≠some []/\∃L,v.L=some L/\L≠[]:=by
 have h1:=T.toTI0.iF.1
 have h2:=T.gi.JB
 constructor
 ·intro h;rw[h] at h1;exact absurd h1 (by simp[ol])
 ·cases h:v.L with
  | none=>rw[h] at h2;simp only[ol,Option.getD_none,length_nil] at h2;simp only[ol] at h1;omega
  | some L =>
    refine⟨L,rfl,fun e=>?_⟩
    rw[h,e] at h2;simp only[ol,Option.getD_some,length_nil] at h2;simp only[ol] at h1;omega
end Go.Ab.Tryz
namespace Go.Ab.Tryz
open Classical Go.Proofs Go.Ab
end Go.Ab.Tryz
namespace Go.Ab.Tryz
open Classical Go.Proofs Go.Ab
structure WT (t:State) (v:SV):Prop where
 td:TD t v (some [⟨⟨1⟩,mkRoot 9,0,0⟩]) none
 ne:NEv v
 hB:v.B≠some []
 hL:v.L≠some []
 pos:0<v.ns.length
 op:Bf v.ns (mkRoot 9)
 tag:t.dB=2
 now:t.store.now=1
end Go.Ab.Tryz
namespace Go.Ab.Tryz
open Classical Go.Proofs Go.Ab
end Go.Ab.Tryz
namespace Go.Ab.Tryz
open Go Go.Ab
def Fh:List Value:=[.int .u64 0]++([.int .i64 0]++uC)
end Go.Ab.Tryz
namespace Go.Ab.Tryz
open Classical Go.Proofs Go.Ab
end Go.Ab.Tryz
namespace Go.Ab.Tryz
open Classical Go.Proofs Go.Ab
def aG6 (o:Option (List Table)) (hn:((ol o).length:Int)<1000000) (f:Nat) (mK:List AV) (p:Table->Bool) (kf:∀x∈ol o,∀(st:St) (d:Option Nat),bH (aG prog) f ([.agg (bZ x)]++mK) st d=some { dst:=d,val:=.v (.bool (p x))}):aG prog 173 [ov aN o,.sH f mK]=some (.v (.int .i64 (sZ (fun k=>p (gx dM (ol o) k)=true) (ol o).length))):=by
 rw[cL func173 rfl (by cases o<;>rfl)]
 refine iA ?_
 simp only[Z8,seval];refine cA (fun m st=>∃k:Nat,(st.env 0=ov aN o/\st.env 1=.sH f mK/\st.env 7=.v (.int .i64 (ol o).length)/\st.env 8=.v (.int .i64 k))/\(∀j:Nat,j<k->¬p (gx dM (ol o) j)=true)/\k<=(ol o).length/\m=(ol o).length-k)
  (fun e st=>(e=.ret/\∃k:Nat,k<(ol o).length/\p (gx dM (ol o) k)=true/\(∀j:Nat,j<k->¬p (gx dM (ol o) j)=true)/\st.env 4=.v (.int .i64 k))\/(e=.exit 0/\∀j:Nat,j<(ol o).length->¬p (gx dM (ol o) j)=true)) (ol o).length ?step ?start ?rest
 case step =>
  rintro m st ⟨k,hI,hj,hk,hm⟩
  by_cases aW:(k:Int)<(ol o).length
  ·have q0:(0:Int)<=k:=by omega
   have hw:=wk (k:=k) (by omega)
   have kx':=kf _ (nC (z:=dM) q0 aW)
   by_cases hr:p (gx dM (ol o) k)=true
   ·rw[hr] at kx'
    apply oT (.ret)
    ·simp only[Z8,seval,hI,aW,q0,kx'];rfl
    ·exact .inl ⟨rfl,k,by omega,hr,hj,by simp only[E8,seval]⟩
   ·have hf:p (gx dM (ol o) k)=false:=by simpa using hr
    rw[hf] at kx'
    apply oN ((ol o).length-(k+1))
    ·simp only[Z8,seval,hI,aW,q0,kx',hw];rfl
    ·exact⟨k+1,by simp only[E8,seval,hI],fun j h=>(Nat.lt_succ_iff_lt_or_eq.1 h).elim (hj j) fun e=>by subst e;exact hr,by omega,rfl⟩
  ·apply oT (.exit 0)
   ·simp only[Z8,seval,hI,aW];rfl
   ·exact .inr ⟨rfl,fun j h=>hj j (by omega)⟩
 case start=>exact⟨0,by simp only[E8,seval]<;>rfl,fun j h=>by omega,by omega,by omega⟩
 case rest =>
  rintro e st (⟨rfl,k,hk,hh,hj,h⟩|⟨rfl,hj⟩)
  ·have hv:sZ (fun k=>p (gx dM (ol o) k)=true) (ol o).length=k:=zP hh hj _ hk
   simp only[Z8,seval];exact⟨_,bT rfl (by simp only[E8,seval,h]<;>rfl) (by first|exact .v _|simp only[jE,h]),by rw[hv]⟩
  ·have hv:sZ (fun k=>p (gx dM (ol o) k)=true) (ol o).length=-1:=qN _ hj
   simp only[Z8,seval];exact⟨_,bT rfl,by rw[hv]⟩
def aG7 (o:Option (List Block)) (hn:((ol o).length:Int)<1000000) (f:Nat) (mK:List AV) (p:Block->Bool) (kf:∀x∈ol o,∀(st:St) (d:Option Nat),bH (aG prog) f ([.agg (aU x)]++mK) st d=some { dst:=d,val:=.v (.bool (p x))}):aG prog 171 [ov aH o,.sH f mK]=some (.v (.int .i64 (sZ (fun k=>p (gx dO (ol o) k)=true) (ol o).length))):=by
 rw[cL func171 rfl (by cases o<;>rfl)]
 refine iA ?_
 simp only[Z8,seval];refine cA (fun m st=>∃k:Nat,(st.env 0=ov aH o/\st.env 1=.sH f mK/\st.env 7=.v (.int .i64 (ol o).length)/\st.env 8=.v (.int .i64 k))/\(∀j:Nat,j<k->¬p (gx dO (ol o) j)=true)/\k<=(ol o).length/\m=(ol o).length-k)
  (fun e st=>(e=.ret/\∃k:Nat,k<(ol o).length/\p (gx dO (ol o) k)=true/\(∀j:Nat,j<k->¬p (gx dO (ol o) j)=true)/\st.env 4=.v (.int .i64 k))\/(e=.exit 0/\∀j:Nat,j<(ol o).length->¬p (gx dO (ol o) j)=true)) (ol o).length ?step ?start ?rest
 case step =>
  rintro m st ⟨k,hI,hj,hk,hm⟩
  by_cases aW:(k:Int)<(ol o).length
  ·have q0:(0:Int)<=k:=by omega
   have hw:=wk (k:=k) (by omega)
   have kx':=kf _ (nC (z:=dO) q0 aW)
   by_cases hr:p (gx dO (ol o) k)=true
   ·rw[hr] at kx'
    apply oT (.ret)
    ·simp only[Z8,seval,hI,aW,q0,kx'];rfl
    ·exact .inl ⟨rfl,k,by omega,hr,hj,by simp only[E8,seval]⟩
   ·have hf:p (gx dO (ol o) k)=false:=by simpa using hr
    rw[hf] at kx'
    apply oN ((ol o).length-(k+1))
    ·simp only[Z8,seval,hI,aW,q0,kx',hw];rfl
    ·exact⟨k+1,by simp only[E8,seval,hI],fun j h=>(Nat.lt_succ_iff_lt_or_eq.1 h).elim (hj j) fun e=>by subst e;exact hr,by omega,rfl⟩
  ·apply oT (.exit 0)
   ·simp only[Z8,seval,hI,aW];rfl
   ·exact .inr ⟨rfl,fun j h=>hj j (by omega)⟩
 case start=>exact⟨0,by simp only[E8,seval]<;>rfl,fun j h=>by omega,by omega,by omega⟩
 case rest =>
  rintro e st (⟨rfl,k,hk,hh,hj,h⟩|⟨rfl,hj⟩)
  ·have hv:sZ (fun k=>p (gx dO (ol o) k)=true) (ol o).length=k:=zP hh hj _ hk
   simp only[Z8,seval];exact⟨_,bT rfl (by simp only[E8,seval,h]<;>rfl) (by first|exact .v _|simp only[jE,h]),by rw[hv]⟩
  ·have hv:sZ (fun k=>p (gx dO (ol o) k)=true) (ol o).length=-1:=qN _ hj
   simp only[Z8,seval];exact⟨_,bT rfl,by rw[hv]⟩
def J0 (w:dL):Flat (.ip (bG w) 0):=.ip _ _ (bR w)
def aRX (x:Table) (J:dL) (fx:Flat (.agg (bZ x))):aG prog 120 [.agg (bZ x),.ip (bG J) 0]=some (.v (.bool (decide (x.ck=J)))):=by
 rw[cL func120 rfl rfl];refine iA ?_
 by_cases h:x.ck=J
 ·simp only[Z8,seval,h,decide_true];exact⟨_,bT rfl,rfl⟩
 ·simp only[Z8,seval,h,decide_false];exact⟨_,bT rfl,rfl⟩
def aMX (x:Table) (J:dL):aG prog 124 [.agg (bZ x),.ip (bG J) 0]=some (.v (.bool (decide (x.ck.aE<J.aE)))):=by
 rw[cL func124 rfl rfl];refine iA ?_
 by_cases h:x.ck.aE<J.aE
 ·simp only[Z8,seval,h,decide_true];exact⟨_,bT rfl,rfl⟩
 ·simp only[Z8,seval,h,decide_false];exact⟨_,bT rfl,rfl⟩
def aMY (x:Block) (n:Int):aG prog 127 [.agg (aU x),.ip (lV n) 0]=some (.v (.bool (decide (x.slot<=n)))):=by
 rw[cL func127 rfl rfl];refine iA ?_
 by_cases h:x.slot<=n
 ·simp only[Z8,seval,h,decide_true];exact⟨_,bT rfl,rfl⟩
 ·simp only[Z8,seval,h,decide_false];exact⟨_,bT rfl,rfl⟩
def aRY (o:Option (List Table)) (hn:((ol o).length:Int)<1000000) (hB:∀y∈ol o,Flat y.iF) (J:dL):aG prog 119 [ov aN o,.sH 120 [.ip (bG J) 0]]=some (.v (.bool (decide (0<=BB (ol o) J)))):=by
 have h:=aG6 o hn 120 [.ip (bG J) 0] (fun x=>decide (x.ck=J)) (fun x hx st d=>bE (bB ((gZ _).2 (hB x hx)) (J0 J)) (aRX x J ((gZ _).2 (hB x hx))) (.v _))
 have e:sZ (fun k=>decide ((gx dM (ol o) k).ck=J)=true) (ol o).length=BB (ol o) J:=by
  show sZ _ _=sZ _ _;exact congrArg (fun p=>sZ p _) (funext fun k=>decide_eq_true_eq)
 rw[e] at h;have fo:=kA o hB
 have fc:Flat (.sH 120 [.ip (bG J) 0]):=.sH _ _ (cP (J0 J))
 have k173:=kx h (bB fo fc) (.v _)
 rw[cL func119 rfl (by cases o<;>rfl)]
 refine iA ?_
 by_cases g:0<=BB (ol o) J
 ·simp only[Z8,seval,k173,g,decide_true];exact⟨_,bT rfl,rfl⟩
 ·simp only[Z8,seval,k173,g,decide_false];exact⟨_,bT rfl,rfl⟩
def Q3 (s:aL) (v:SV) (c:dL):Prop:=0<=aC v.ns c.root/\(nd v.ns (aC v.ns c.root)).status≠2/\(sJ s c.aE).2=0/\(nd v.ns (aC v.ns c.root)).block.slot<=(sJ s c.aE).1
def ndI (v:SV) (c:dL):Int:=if 0<=aC v.ns c.root/\(nd v.ns (aC v.ns c.root)).status≠2 then aC v.ns c.root else -1
def aRZ {s:aL} {v:SV} (hs:SD s v) (c:dL) (hc:Rg c.aE):aG prog 118 [.agg (aA s),.agg (bG c)]=some (.eH [.v (.int .i64 (ndI v c)),.v (.bool (decide (Q3 s v c)))]):=by
 have ZY:∀(st:St) (d:Option Nat),bH (aG prog) 95 [.v (.int .u64 c.aE),.v (.int .u64 s.cFg.jS)] st d=some { dst:=d,val:=.eH [.v (.int .u64 (sJ s c.aE).1),.v (.int .i64 (sJ s c.aE).2)]}:=fun st d=>k95 hc st d
 have fr:=cS v.ns c.root
 rw[cL func118 rfl rfl];refine iA ?_
 by_cases g1:aC v.ns c.root<0
 ·have e1:ndI v c=-1:=by unfold ndI;rw[if_neg (fun h=>by omega)]
  have e2:¬Q3 s v c:=fun h=>by have:=h.1;omega
  simp only[Z8,seval,hs.tree,k89 _ _ hs.nn,g1];exact⟨_,dN rfl rfl rfl (by simp only[E8,seval]<;>rfl) (by simp only[E8,seval]<;>rfl),by rw[e1,decide_eq_false e2]⟩
 have q0:0<=aC v.ns c.root:=by omega
 by_cases g2:(nd v.ns (aC v.ns c.root)).status=2
 ·have e1:ndI v c=-1:=by unfold ndI;rw[if_neg (fun h=>h.2 g2)]
  have e2:¬Q3 s v c:=fun h=>h.2.1 g2
  simp only[Z8,seval,hs.tree,k89 _ _ hs.nn,g1,q0,fr.2,bt g2];exact⟨_,dN rfl rfl rfl (by simp only[E8,seval]<;>rfl) (by simp only[E8,seval]<;>rfl),by rw[e1,decide_eq_false e2]⟩
 have e1:ndI v c=aC v.ns c.root:=by unfold ndI;rw[if_pos ⟨q0,g2⟩]
 by_cases g3:(sJ s c.aE).2=0
 case neg =>
  have e2:¬Q3 s v c:=fun h=>g3 h.2.2.1
  simp only[Z8,seval,hs.tree,k89 _ _ hs.nn,g1,q0,fr.2,bf g2,ZY,dR,bf g3];exact⟨_,dN rfl rfl rfl (by simp only[E8,seval]<;>rfl) (by simp only[E8,seval]<;>rfl),by rw[e1,decide_eq_false e2]⟩
 by_cases g4:(nd v.ns (aC v.ns c.root)).block.slot<=(sJ s c.aE).1
 ·have e2:Q3 s v c:=⟨q0,g2,g3,g4⟩
  simp only[Z8,seval,hs.tree,k89 _ _ hs.nn,g1,q0,fr.2,bf g2,ZY,dR,bt g3,g4];exact⟨_,dN rfl rfl rfl (by simp only[E8,seval]<;>rfl) (by simp only[E8,seval]<;>rfl),by rw[e1,decide_eq_true e2]⟩
 ·have e2:¬Q3 s v c:=fun h=>g4 h.2.2.2
  simp only[Z8,seval,hs.tree,k89 _ _ hs.nn,g1,q0,fr.2,bf g2,ZY,dR,bt g3,g4];exact⟨_,dN rfl rfl rfl (by simp only[E8,seval]<;>rfl) (by simp only[E8,seval]<;>rfl),by rw[e1,decide_eq_false e2]⟩
def Rw {s:aL} {v:SV} (hs:SD s v) (c:dL) (hc:Rg c.aE):KC 118 [.agg (aA s),.agg (bG c)] (.eH [.v (.int .i64 (ndI v c)),.v (.bool (decide (Q3 s v c)))]):=fun _ _=>bE (bB hs.flat (.agg _ (bR c))) (aRZ hs c hc) (.eH _ (bB (.v _) (.v _)))
def okC (s:aL) (v:SV) (J F:dL):Prop:=Q3 s v F/\Q3 s v J/\lW v.ns (aC v.ns F.root) (aC v.ns J.root)=true/\F.aE<=J.aE/\J.aE<=wL s s.now/\0<=BB (ol v.T) J
def J1 {s:aL} {v:SV} (h:1<=s.cFg.jS/\s.cFg.jS<=64) (hx:Rg s.now) {J F:dL} (hJ:Rg J.aE) (hF:Rg F.aE):okC s v J F↔¬iP s v J F:=by
 have key:∀c:dL,Rg c.aE->c.aE<=wL s s.now->(sJ s c.aE).2=0:=fun c hc hle=>by rw[(aBr h hc.1 hle hx).1]
 unfold okC Q3 iP Jn;constructor
 ·rintro⟨⟨f1,f2,f3,f4⟩,⟨j1,j2,j3,j4⟩,a,b,c,d⟩ hb
  rcases hb with h|h|h|h|h|h|h|h|h|h
  ·omega
  ·omega
  ·exact j2 h
  ·exact f2 h
  ·exact h (.inr j4)
  ·exact h (.inr f4)
  ·rw[h] at a;cases a
  ·omega
  ·omega
  ·omega
 ·intro hb;simp only[not_or,Classical.not_not,Int.not_lt,Bool.not_eq_false] at hb;obtain⟨h1,h2,h3,h4,h5,h6,h7,h8,h9,h10⟩:=hb
  have hJ0:=key J hJ h9
  have hF0:=key F hF (by omega)
  exact⟨⟨h2,h4,hF0,Classical.byContradiction fun e=>h6 ⟨hF0,e⟩⟩,⟨h1,h3,hJ0,Classical.byContradiction fun e=>h5 ⟨hJ0,e⟩⟩,h7,h8,h9,h10⟩
def aBz {s:aL} {v:SV} {c:dL} (h:Q3 s v c):ndI v c=aC v.ns c.root:=by unfold ndI;rw[if_pos ⟨h.1,h.2.1⟩]
def c58 {s:aL} {v:SV} (hs:SD s v) (hu:fK v.ns) (hp:1<=s.cFg.jS/\s.cFg.jS<=64) (hx:Rg s.now) (hj:Rg s.aI.eI.aE) (Xd:Rg s.aI.fin.aE) (c1 c2:dL) (h1:Rg c1.aE) (h2:Rg c2.aE):aG prog 58 [.agg (aA s),.agg (bG c1),.agg (bG c2)]=some (Ri s v c1 c2):=by
 have hf:=hs.flat
 have hB:=fun y hy=>(hs.tB y hy).fl
 have fo:=kA v.T hB
 have rJ:Rg (sU s c1).aE:=by unfold sU;split<;>assumption
 have rF:Rg (oB s c2).aE:=by unfold oB;split<;>assumption
 have j8:∀(args:List AV) (st:St) (d:Option Nat),bH (aG prog) 119 args st d=uT (aG prog) 119 (cK (args.map (fS st))) (decide (∀x∈args,Flat x)) st d:=fun args st d=>jY _ _ _ _ _
 have j9:∀(J:dL) (fl:Bool) (st:St) (d:Option Nat),uT (aG prog) 119 (some [ov aN v.T,.sH 120 [.ip (bG J) 0]]) fl st d=some { dst:=d,val:=.v (.bool (decide (0<=BB (ol v.T) J)))}:=fun J fl st d=>Uc (aRY v.T hs.nT hB J)
 have eV:∀(J:dL) (st:St) (o:Nat),Wx st (some (.cells (bG J))) o=some (.ip (bG J) o):=fun J st o=>tK st (bR J) o
 have eT:∀st:St,fS st (ov aN v.T)=some (ov aN v.T):=fun st=>eC fo
 have l4:=fun x=>k94 (s:=s) hp x
 rw[cG func58 rfl rfl]
 refine iA ?_
 obtain⟨J,eJ⟩:∃J,sU s c1=J:=⟨_,rfl⟩
 obtain⟨F,eF⟩:∃F,oB s c2=F:=⟨_,rfl⟩
 have aIA:=J1 (v:=v) hp hx rJ rF
 unfold Ri;rw[eJ,eF] at aIA ⊢;rw[eJ] at rJ;rw[eF] at rF;have nb:¬okC s v J F->iP s v J F:=fun h=>Classical.byContradiction fun e=>h (aIA.2 e)
 simp only[ZG,seval,MD,mN,mO];refine Zf (fun a=>a.1=.normal/\a.2.env 3=.ptr 3 0 0/\a.2.heap 3 0=some (.cells (aA s))/\a.2.env 5=.ptr 5 0 0/\a.2.heap 5 0=some (.cells (bG c2))/\a.2.env 6=.ptr 6 0 0/\a.2.heap 6 0=some (.cells (bG J))/\a.2.env 7=.ptr 7 0 0/\a.2.heap 7 0=some (.cells (bG s.aI.fin))) ?m1 ?r1
 case m1 =>
  unfold sU at eJ;by_cases a1:s.aI.eI.aE<c1.aE
  ·rw[if_pos a1] at eJ;simp only[a1,decide_true,if_true];exact⟨_,rfl,rfl,by simp only[E8,seval,eJ]⟩
  ·rw[if_neg a1] at eJ;simp only[a1,decide_false,Bool.false_eq_true,if_false];exact⟨_,rfl,rfl,by simp only[E8,seval,eJ]⟩
 case r1 =>
  rintro⟨_,st⟩ ⟨rfl,hI⟩
  dsimp only at hI
  simp only[ZG,seval,MD,mN,mO,hI];refine Zf (fun a=>a.1=.normal/\a.2.env 3=.ptr 3 0 0/\a.2.heap 3 0=some (.cells (aA s))/\a.2.env 6=.ptr 6 0 0/\a.2.heap 6 0=some (.cells (bG J))/\a.2.env 7=.ptr 7 0 0/\a.2.heap 7 0=some (.cells (bG F))) ?m2 ?r2
  case m2 =>
   unfold oB at eF;by_cases a2:s.aI.fin.aE<c2.aE
   ·rw[if_pos a2] at eF;simp only[a2,decide_true,if_true];exact⟨_,rfl,rfl,by simp only[E8,seval,hI,eF]⟩
   ·rw[if_neg a2] at eF;simp only[a2,decide_false,Bool.false_eq_true,if_false];exact⟨_,rfl,rfl,by simp only[E8,seval,hI,eF]⟩
  case r2 =>
   rintro⟨_,st⟩ ⟨rfl,hJ⟩
   dsimp only at hJ
   by_cases g1:¬Q3 s v F
   ·simp only[ZG,seval,MD,mN,mO,hJ,Rw hs _ rJ,Rw hs _ rF,hs.tree,hs.tables,j8,eT,oV,eV,j9,dR,l4,YD _ hu,decide_true,decide_false,g1];exact⟨_,by apply fQ;rfl;all_goals simp only[aJ,bY,Z8,seval,hJ]<;>rfl,by rw[if_pos (nb (fun h=>by obtain⟨u1,u2,u3,u4,u5,u6⟩:=h;first|exact absurd u1 (by assumption)|exact absurd u2 (by assumption)|omega|exact absurd (u3.symm.trans g3) (by decide)))]⟩
   replace g1:=Classical.not_not.1 g1
   by_cases g2:¬Q3 s v J
   ·simp only[ZG,seval,MD,mN,mO,hJ,Rw hs _ rJ,Rw hs _ rF,hs.tree,hs.tables,j8,eT,oV,eV,j9,dR,l4,YD _ hu,decide_true,decide_false,g1,g2];exact⟨_,by apply fQ;rfl;all_goals simp only[aJ,bY,Z8,seval,hJ]<;>rfl,by rw[if_pos (nb (fun h=>by obtain⟨u1,u2,u3,u4,u5,u6⟩:=h;first|exact absurd u1 (by assumption)|exact absurd u2 (by assumption)|omega|exact absurd (u3.symm.trans g3) (by decide)))]⟩
   replace g2:=Classical.not_not.1 g2
   have e1:=aBz g1
   have e2:=aBz g2
   by_cases g3:lW v.ns (aC v.ns F.root) (aC v.ns J.root)=false
   ·simp only[ZG,seval,MD,mN,mO,hJ,Rw hs _ rJ,Rw hs _ rF,hs.tree,hs.tables,j8,eT,oV,eV,j9,dR,l4,YD _ hu,decide_true,decide_false,g1,g2,e1,e2,g3];exact⟨_,by apply fQ;rfl;all_goals simp only[aJ,bY,Z8,seval,hJ]<;>rfl,by rw[if_pos (nb (fun h=>by obtain⟨u1,u2,u3,u4,u5,u6⟩:=h;first|exact absurd u1 (by assumption)|exact absurd u2 (by assumption)|omega|exact absurd (u3.symm.trans g3) (by decide)))]⟩
   replace g3:=(by simpa using g3:lW v.ns _ _=true)
   by_cases g4:J.aE<F.aE
   ·simp only[ZG,seval,MD,mN,mO,hJ,Rw hs _ rJ,Rw hs _ rF,hs.tree,hs.tables,j8,eT,oV,eV,j9,dR,l4,YD _ hu,decide_true,decide_false,g1,g2,e1,e2,g3,g3,g4];exact⟨_,by apply fQ;rfl;all_goals simp only[aJ,bY,Z8,seval,hJ]<;>rfl,by rw[if_pos (nb (fun h=>by obtain⟨u1,u2,u3,u4,u5,u6⟩:=h;first|exact absurd u1 (by assumption)|exact absurd u2 (by assumption)|omega|exact absurd (u3.symm.trans g3) (by decide)))]⟩
   by_cases g5:wL s s.now<J.aE
   ·simp only[ZG,seval,MD,mN,mO,hJ,Rw hs _ rJ,Rw hs _ rF,hs.tree,hs.tables,j8,eT,oV,eV,j9,dR,l4,YD _ hu,decide_true,decide_false,g1,g2,e1,e2,g3,g3,g4,g5];exact⟨_,by apply fQ;rfl;all_goals simp only[aJ,bY,Z8,seval,hJ]<;>rfl,by rw[if_pos (nb (fun h=>by obtain⟨u1,u2,u3,u4,u5,u6⟩:=h;first|exact absurd u1 (by assumption)|exact absurd u2 (by assumption)|omega|exact absurd (u3.symm.trans g3) (by decide)))]⟩
   by_cases g6:¬0<=BB (ol v.T) J
   ·simp only[ZG,seval,MD,mN,mO,hJ,Rw hs _ rJ,Rw hs _ rF,hs.tree,hs.tables,j8,eT,oV,eV,j9,dR,l4,YD _ hu,decide_true,decide_false,g1,g2,e1,e2,g3,g3,g4,g5,g6];exact⟨_,by apply fQ;rfl;all_goals simp only[aJ,bY,Z8,seval,hJ]<;>rfl,by rw[if_pos (nb (fun h=>by obtain⟨u1,u2,u3,u4,u5,u6⟩:=h;first|exact absurd u1 (by assumption)|exact absurd u2 (by assumption)|omega|exact absurd (u3.symm.trans g3) (by decide)))]⟩
   replace g6:=Classical.not_not.1 g6
   simp only[ZG,seval,MD,mN,mO,hJ,Rw hs _ rJ,Rw hs _ rF,hs.tree,hs.tables,j8,eT,oV,eV,j9,dR,l4,YD _ hu,decide_true,decide_false,g1,g2,e1,e2,g3,g3,g4,g5,g6];exact⟨_,by apply fQ;rfl;all_goals simp only[aJ,bY,Z8,seval,hJ]<;>rfl,by rw[if_neg (aIA.1 ⟨g1,g2,g3,by omega,by omega,by omega⟩)]⟩
def k58 {s:aL} {v:SV} (hs:SD s v) (hu:fK v.ns) (hp:1<=s.cFg.jS/\s.cFg.jS<=64) (hx:Rg s.now) (hj:Rg s.aI.eI.aE) (Xd:Rg s.aI.fin.aE) (c1 c2:dL) (h1:Rg c1.aE) (h2:Rg c2.aE):KC 58 [.agg (aA s),.agg (bG c1),.agg (bG c2)] (Ri s v c1 c2):=fun _ _=>bE (mM hs.flat (.agg _ (bR c1)) (.agg _ (bR c2))) (c58 hs hu hp hx hj Xd c1 c2 h1 h2) (by unfold Ri;split<;>exact .eH _ (mM (.agg _ (bR _)) (.agg _ (bR _)) (.v _)))
end Go.Ab.Tryz
