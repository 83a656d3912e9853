/-
  Part 16 of the proof: an evaluator of programs, its soundness, and what functions of this program compute.
-/
import Derived.Test.YtmcjkemalibacaaGreatK15
import Derived.Test.YtmcjkemalibacaaGreatK12
import Derived.Test.YtmcjkemalibacaaGreatK11
import Derived.Test.YtmcjkemalibacaaGreatK14
import Derived.Test.YtmcjkemalibacaaGreatK10
import Derived.Test.YtmcjkemalibacaaGreatK18
set_option linter.all false
set_option maxRecDepth 20000
set_option maxHeartbeats 40000000
namespace Go.Ab.Tryz
open Classical Go.Proofs Go.Ab
def Lo (l:List xH):List AV:=l.flatMap lC
theorem V7 (x:xH):yF 190 446 720 (some (1,lC x))=some (none,.row 190 446 [x].length (Lo [x])):=by simp[yF,maxLen,Lo]
theorem V8 (l:List xH) (x:xH) (s g:Nat) (h:(l.length:Int)<1000000):xT 190 446 720 (some (.row 190 446 l.length (Lo l))) s g (some (1,lC x))=some (some (s,g),.row 190 446 (l++[x]).length (Lo (l++[x]))):=by
 simp only[xT];rw[if_pos ⟨by simp,trivial,trivial,by omega,by simp only[maxLen];omega⟩]
 simp[Lo,List.flatMap_append]
theorem Qx (l:List xH) (h:∀y∈l,pH y):∀x∈Lo l,Flat x:=by
 intro x hx;obtain⟨y,hm,hy⟩:=List.mem_flatMap.1 hx
 have hf:=(h y hm).flat
 cases hf with
 | agg _ hc=>exact hc x hy
theorem aF9 (n:Nat) (l:List xH) (h:∀y∈l,pH y):jF (some (.row 190 446 n (Lo l)))=some (.sl n (Lo l)):=by
 unfold jF;simp only;rw[if_pos (Qx l h)]
theorem x75 (l:List Int) (hl:(l.length:Int)≤9223372036854775807):∃r,aD Tryz.prog 75 [.sl l.length (aJ l)]=some r∧∃(c:Config) (X:AV) (t:State) (v:SV) (Q R:Option (List Request)),r=.dZ [.agg (bV c),X,.agg (aE t)]∧Flat (.agg (bV c))∧Flat X∧TI t v Q R 24000 6144:=by
 obtain⟨y1,hy1,c,b,rfl,hc⟩:=aSh l hl
 have fc:Flat (.agg (bV c)):=(Cq c).2 (by rw[hc.jP];exact dU _)
 have k101:∀(st:St) (d:Option Nat),fC (aD Tryz.prog) 101 _ st d=_:=fun st d=>Hi (cP (Ky l)) hy1 fc
 obtain⟨y2,hy2,Li,last,y,rfl,fy⟩:=aSv hc
 have T0:=(TI.new hc).emit Li last
 have k144:=kx hy2 (cP fc) (.dZ _ (oE T0.td.flat fy (.v _)))
 have k16:=Na l hl 16 (by omega) (by omega)
 have k17:=Na l hl 17 (by omega) (by omega)
 have n0:=(Mz l hl 16 (by omega) (by omega)).2.1
 obtain⟨n1,n2⟩:=eG (n:=25) n0 (by omega)
 obtain⟨N,hN⟩:∃N,(GF l 16).tmod 25=N:=⟨_,rfl⟩
 rw[hN] at n1 n2;rw[cG Tryz.func75 rfl aSw (by kernel_rfl) rfl]
 have body:∀(M:Int),0≤M→M≤24→∀st:St,(st.env 0=.sl l.length (aJ l)∧st.env 2=.ptr 2 0 0∧st.heap 2 0=some (.cells (bV nY))∧st.env 4=.ptr 4 0 0∧st.heap 4 0=some (.cells (aE iZ))∧st.env 5=.ptr 5 0 0∧st.heap 5 0=some (.cells (bV c))∧st.env 6=.ptr 6 0 0∧st.heap 6 0=some (.cells (aE { V6 c b with Li:=Li,last:=last }))∧st.env 9=.v (.slice none 0 0)∧st.env 10=.v (.int .i64 M)∧st.env 11=.v (.int .i64 0))→∃e st',wL Tryz.prog true (kY (Tryz.f75.body.getD .skip)) st=some (e,st')∧(e=.exit 0∧∃(t:State) (v:SV) (Q R:Option (List Request)),(st'.env 2=.ptr 2 0 0∧st'.heap 2 0=some (.cells (bV nY))∧st'.env 4=.ptr 4 0 0∧st'.heap 4 0=some (.cells (aE iZ))∧st'.env 5=.ptr 5 0 0∧st'.heap 5 0=some (.cells (bV c))∧st'.env 6=.ptr 6 0 0∧st'.heap 6 0=some (.cells (aE t)))∧(st'.env 9=.v (.slice none 0 0)∨∃(L:List xH) (g:Nat),st'.env 9=.own 48 g∧st'.heap 48 g=some (.row 190 446 L.length (Lo L))∧∀y∈L,pH y)∧TI t v Q R 24000 6144):=by
  intro M hM0 hM1 st hs;suffices key:∃r,cC (wL Tryz.prog true (kY (Tryz.f75.body.getD .skip)) st) some=some r∧(r.1=.exit 0∧∃(t:State) (v:SV) (Q R:Option (List Request)),(r.2.env 2=.ptr 2 0 0∧r.2.heap 2 0=some (.cells (bV nY))∧r.2.env 4=.ptr 4 0 0∧r.2.heap 4 0=some (.cells (aE iZ))∧r.2.env 5=.ptr 5 0 0∧r.2.heap 5 0=some (.cells (bV c))∧r.2.env 6=.ptr 6 0 0∧r.2.heap 6 0=some (.cells (aE t)))∧(r.2.env 9=.v (.slice none 0 0)∨∃(L:List xH) (g:Nat),r.2.env 9=.own 48 g∧r.2.heap 48 g=some (.row 190 446 L.length (Lo L))∧∀y∈L,pH y)∧TI t v Q R 24000 6144) by
   obtain⟨r,h,hq⟩:=key
   cases hx:wL Tryz.prog true (kY (Tryz.f75.body.getD .skip)) st with
   | none=>rw[hx] at h;cases h
   | some y=>rw[hx] at h;simp only[cW,Option.some.injEq] at h;subst h;exact⟨y.1,y.2,rfl,hq⟩
  simp only[Tryz.f75,Option.getD_some,kY];refine mH (fun m st=>∃(k:Nat) (t:State) (v:SV) (Q R:Option (List Request)),(st.env 0=.sl l.length (aJ l)∧st.env 2=.ptr 2 0 0∧st.heap 2 0=some (.cells (bV nY))∧st.env 4=.ptr 4 0 0∧st.heap 4 0=some (.cells (aE iZ))∧st.env 5=.ptr 5 0 0∧st.heap 5 0=some (.cells (bV c))∧st.env 6=.ptr 6 0 0∧st.heap 6 0=some (.cells (aE t))∧st.env 10=.v (.int .i64 M)∧st.env 11=.v (.int .i64 k))∧(st.env 9=.v (.slice none 0 0)∨∃(L:List xH) (g:Nat),(st.env 9=.own 48 g∧st.heap 48 g=some (.row 190 446 L.length (Lo L)))∧g<st.aO 48∧(∀y∈L,pH y)∧L.length≤k)∧TI t v Q R (1000 * k) (256 * k)∧(k:Int)≤M∧m=(M-k).toNat)
   (fun e st=>e=.exit 0∧∃(t:State) (v:SV) (Q R:Option (List Request)),(st.env 2=.ptr 2 0 0∧st.heap 2 0=some (.cells (bV nY))∧st.env 4=.ptr 4 0 0∧st.heap 4 0=some (.cells (aE iZ))∧st.env 5=.ptr 5 0 0∧st.heap 5 0=some (.cells (bV c))∧st.env 6=.ptr 6 0 0∧st.heap 6 0=some (.cells (aE t)))∧(st.env 9=.v (.slice none 0 0)∨∃(L:List xH) (g:Nat),st.env 9=.own 48 g∧st.heap 48 g=some (.row 190 446 L.length (Lo L))∧∀y∈L,pH y)∧TI t v Q R 24000 6144) M.toNat ?step ?start ?rest
  case start=>exact⟨0,_,_,_,_,⟨hs.1,hs.2.1,hs.2.2.1,hs.2.2.2.1,hs.2.2.2.2.1,hs.2.2.2.2.2.1,hs.2.2.2.2.2.2.1,hs.2.2.2.2.2.2.2.1,hs.2.2.2.2.2.2.2.2.1,hs.2.2.2.2.2.2.2.2.2.2.1,hs.2.2.2.2.2.2.2.2.2.2.2⟩,.inl hs.2.2.2.2.2.2.2.2.2.1,T0,by omega,by omega⟩
  case rest=>exact fun e st h=>⟨_,rfl,h⟩
  case step =>
   clear hs
   rintro m st ⟨k,t,v,Q,R,hI,hX,T,hk,hm⟩
   by_cases aZ:(k:Int)<M
   case neg =>
    have hX':st.env 9=.v (.slice none 0 0)∨∃(L:List xH) (g:Nat),st.env 9=.own 48 g∧st.heap 48 g=some (.row 190 446 L.length (Lo L))∧∀y∈L,pH y:=hX.imp id fun ⟨L,g,h1,_,h3,_⟩=>⟨L,g,h1.1,h1.2,h3⟩
    apply LB (.exit 0)
    ·simp only[ZG,seval,Bool.false_and,Prod.mk.injEq,Xy,hI,aZ];rfl
    ·exact⟨rfl,t,v,Q,R,by simp only[E8,seval,hI],by simpa only[E8,seval] using hX',T.mono (by omega) (by omega) (by omega) (by omega)⟩
   have hw:IntKind.i64.wrap ((k:Int)+1)=((k+1:Nat):Int):=by rw[pM _ (by omega) (by omega)];omega
   obtain⟨j,hj⟩:∃j:Int,j=18+(k:Int):=⟨_,rfl⟩
   have hwj:IntKind.i64.wrap (18+(k:Int))=j:=by rw[pM _ (by omega) (by omega),hj]
   obtain⟨n,hn⟩:∃n:Int,n=10+(k:Int):=⟨_,rfl⟩
   have hwn:IntKind.i64.wrap (10+(k:Int))=n:=by rw[pM _ (by omega) (by omega),hn]
   have kj:=Na l hl j (by omega) (by omega)
   have j0:=(Mz l hl j (by omega) (by omega)).2.1
   have op:∀z:Int,0≤z→∃(y:xH) (t':State) (w:AV) (e:Int) (v':SV) (Q' R':Option (List Request)),(∀(st:St) (d:Option Nat),aN (aD Tryz.prog) 146 [.agg (aE t),.v (.int .i64 n),.v (.int .i64 z)] st d=some { dst:=d,val:=.agg (lC y)})∧(∀(st:St) (d:Option Nat),aN (aD Tryz.prog) 147 [.agg (aE t),.agg (lC y)] st d=some { dst:=d,val:=.dZ [.agg (aE t'),w,.v (.int .i64 e)]})∧pH y∧TI t' v' Q' R' (1000 * ((k+1:Nat):Int)) (256 * ((k+1:Nat):Int)):=by
    intro z hz;obtain⟨y3,hy3,o,rfl,ho,hr⟩:=aSe T.td T.gi T.rg T.jP (fun r hr=>by obtain⟨h1,h2,_⟩:=T.tq.all r hr;have:=T.nt;exact⟨by omega,by omega⟩) n z hz
    have hp:o.kind=2→Pr o.block.root:=fun h2=>by
     rcases hr h2 with h|⟨a,ha,h⟩
     ·rw[h];exact aF8 (by omega) (by omega)
     ·rw[h];exact T.rg.rt a ha
    obtain⟨y4,hy4,t',w,e,v',Q',R',rfl,fw,T'⟩:=aSs T o ho hp (by omega) (by omega)
    exact⟨o,t',w,e,v',Q',R',kx hy3 (oE T.td.flat (.v _) (.v _)) ho.flat,kx hy4 (bI T.td.flat ho.flat) (.dZ _ (oE T'.td.flat fw (.v _))),ho,T'.mono (by omega) (by omega) (by omega) (by omega)⟩
   by_cases k0:(k:Int)=0
   ·obtain⟨o,t',w,e,v',Q',R',V9,W0,ho,T'⟩:=op 0 (by omega)
    rcases hX with hX|⟨L,g,hX,hg,hL,hLk⟩
    ·apply En ((M-((k+1:Nat):Int)).toNat)
     ·simp only[ZG,seval,Bool.false_and,Prod.mk.injEq,Xy,hI,hX,aZ,hwj,kj,bt k0,hwn,V9,V7,W0,eC,hw];rfl
     ·exact⟨k+1,t',v',Q',R',by simp only[E8,seval,hI],.inr ⟨[o],_,⟨by simp only[E8,seval]<;>rfl,by simp only[E8,seval]<;>rfl⟩,by simp only[E8,seval]<;>omega,(fun y hy=>by rw[List.mem_singleton] at hy;rw[hy];exact ho),by simp⟩,T',by omega,rfl⟩
    ·have nL:(L.length:Int)<1000000:=by omega
     have vA:(g=st.aO 48)=False:=eq_false (by omega)
     apply En ((M-((k+1:Nat):Int)).toNat)
     ·simp only[ZG,seval,Bool.false_and,Prod.mk.injEq,Xy,hI,hX,vA,aZ,hwj,kj,bt k0,hwn,V9,V8 _ _ _ _ nL,W0,eC,hw];rfl
     ·exact⟨k+1,t',v',Q',R',by simp only[E8,seval,hI],.inr ⟨L++[o],_,⟨by simp only[E8,seval]<;>rfl,by simp only[E8,seval]<;>rfl⟩,by simp only[E8,seval]<;>omega,(fun y hy=>(List.mem_append.1 hy).elim (hL y) fun h=>by rw[List.mem_singleton] at h;rw[h];exact ho),by rw[List.length_append,List.length_cons,List.length_nil];omega⟩,T',by omega,rfl⟩
   ·obtain⟨o,t',w,e,v',Q',R',V9,W0,ho,T'⟩:=op (GF l j) j0
    rcases hX with hX|⟨L,g,hX,hg,hL,hLk⟩
    ·apply En ((M-((k+1:Nat):Int)).toNat)
     ·simp only[ZG,seval,Bool.false_and,Prod.mk.injEq,Xy,hI,hX,aZ,hwj,kj,bf k0,hwn,V9,V7,W0,eC,hw];rfl
     ·exact⟨k+1,t',v',Q',R',by simp only[E8,seval,hI],.inr ⟨[o],_,⟨by simp only[E8,seval]<;>rfl,by simp only[E8,seval]<;>rfl⟩,by simp only[E8,seval]<;>omega,(fun y hy=>by rw[List.mem_singleton] at hy;rw[hy];exact ho),by simp⟩,T',by omega,rfl⟩
    ·have nL:(L.length:Int)<1000000:=by omega
     have vA:(g=st.aO 48)=False:=eq_false (by omega)
     apply En ((M-((k+1:Nat):Int)).toNat)
     ·simp only[ZG,seval,Bool.false_and,Prod.mk.injEq,Xy,hI,hX,vA,aZ,hwj,kj,bf k0,hwn,V9,V8 _ _ _ _ nL,W0,eC,hw];rfl
     ·exact⟨k+1,t',v',Q',R',by simp only[E8,seval,hI],.inr ⟨L++[o],_,⟨by simp only[E8,seval]<;>rfl,by simp only[E8,seval]<;>rfl⟩,by simp only[E8,seval]<;>omega,(fun y hy=>(List.mem_append.1 hy).elim (hL y) fun h=>by rw[List.mem_singleton] at h;rw[h];exact ho),by rw[List.length_append,List.length_cons,List.length_nil];omega⟩,T',by omega,rfl⟩
 by_cases g1:0<(GF l 17).tmod 4
 ·simp only[ZG,seval,Bool.false_and,Prod.mk.injEq,Xy,k101,k144,eC,k16,hN,k17,g1];refine Jc (a:=kY (Tryz.f75.body.getD .skip)) (fun e st'=>e=.exit 0∧∃(t:State) (v:SV) (Q R:Option (List Request)),(st'.env 2=.ptr 2 0 0∧st'.heap 2 0=some (.cells (bV nY))∧st'.env 4=.ptr 4 0 0∧st'.heap 4 0=some (.cells (aE iZ))∧st'.env 5=.ptr 5 0 0∧st'.heap 5 0=some (.cells (bV c))∧st'.env 6=.ptr 6 0 0∧st'.heap 6 0=some (.cells (aE t)))∧(st'.env 9=.v (.slice none 0 0)∨∃(L:List xH) (g:Nat),st'.env 9=.own 48 g∧st'.heap 48 g=some (.row 190 446 L.length (Lo L))∧∀y∈L,pH y)∧TI t v Q R 24000 6144) (body 24 (by omega) (by omega) _ (by simp only[E8,seval]<;>rfl)) ?rest
  rintro e st ⟨rfl,t,v,Q,R,hI,hX|⟨L,g,hX,hh,hL⟩,T⟩
  ·have ft:=T.td.flat
   simp only[ZG,seval,Bool.false_and,Prod.mk.injEq,Xy,hI,hX];exact⟨_,gU rfl (by simp only[bY,Z8,seval,hI]<;>rfl) (by simp only[bY,Z8,seval,hX]<;>rfl) (by simp only[bY,Z8,seval,hI]<;>rfl) (dY fc) (dY (.v _)) (dY ft),c,_,t,v,Q,R,rfl,fc,.v _,T⟩
  ·have ft:=T.td.flat
   have ex:=aF9 L.length L hL
   simp only[ZG,seval,Bool.false_and,Prod.mk.injEq,Xy,hI,hX,hh];exact⟨_,gU rfl (by simp only[bY,Z8,seval,hI]<;>rfl) (by simp only[bY,Z8,seval,hX]<;>rfl) (by simp only[bY,Z8,seval,hI]<;>rfl) (dY fc) (by simp only[Z8,seval,hh,ex]<;>rfl) (dY ft),c,_,t,v,Q,R,rfl,fc,.sl _ _ (Qx L hL),T⟩
 ·simp only[ZG,seval,Bool.false_and,Prod.mk.injEq,Xy,k101,k144,eC,k16,hN,k17,g1];refine Jc (a:=kY (Tryz.f75.body.getD .skip)) (fun e st'=>e=.exit 0∧∃(t:State) (v:SV) (Q R:Option (List Request)),(st'.env 2=.ptr 2 0 0∧st'.heap 2 0=some (.cells (bV nY))∧st'.env 4=.ptr 4 0 0∧st'.heap 4 0=some (.cells (aE iZ))∧st'.env 5=.ptr 5 0 0∧st'.heap 5 0=some (.cells (bV c))∧st'.env 6=.ptr 6 0 0∧st'.heap 6 0=some (.cells (aE t)))∧(st'.env 9=.v (.slice none 0 0)∨∃(L:List xH) (g:Nat),st'.env 9=.own 48 g∧st'.heap 48 g=some (.row 190 446 L.length (Lo L))∧∀y∈L,pH y)∧TI t v Q R 24000 6144) (body N (by omega) (by omega) _ (by simp only[E8,seval]<;>rfl)) ?Hh
  rintro e st ⟨rfl,t,v,Q,R,hI,hX|⟨L,g,hX,hh,hL⟩,T⟩
  ·have ft:=T.td.flat
   simp only[ZG,seval,Bool.false_and,Prod.mk.injEq,Xy,hI,hX];exact⟨_,gU rfl (by simp only[bY,Z8,seval,hI]<;>rfl) (by simp only[bY,Z8,seval,hX]<;>rfl) (by simp only[bY,Z8,seval,hI]<;>rfl) (dY fc) (dY (.v _)) (dY ft),c,_,t,v,Q,R,rfl,fc,.v _,T⟩
  ·have ft:=T.td.flat
   have ex:=aF9 L.length L hL
   simp only[ZG,seval,Bool.false_and,Prod.mk.injEq,Xy,hI,hX,hh];exact⟨_,gU rfl (by simp only[bY,Z8,seval,hI]<;>rfl) (by simp only[bY,Z8,seval,hX]<;>rfl) (by simp only[bY,Z8,seval,hI]<;>rfl) (dY fc) (by simp only[Z8,seval,hh,ex]<;>rfl) (dY ft),c,_,t,v,Q,R,rfl,fc,.sl _ _ (Qx L hL),T⟩
theorem x24 (l:List Int) (hl:(l.length:Int)≤9223372036854775807):∃(t:State) (v:SV) (Q R:Option (List Request)),aD Tryz.prog 24 [.sl l.length (aJ l)]=some (.agg (aE t))∧TI t v Q R 24000 6144:=by
 suffices h:∃r,aD Tryz.prog 24 [.sl l.length (aJ l)]=some r∧∃(t:State) (v:SV) (Q R:Option (List Request)),r=.agg (aE t)∧TI t v Q R 24000 6144 by
  obtain⟨r,h,t,v,Q,R,rfl,T⟩:=h
  exact⟨t,v,Q,R,h,T⟩
 obtain⟨y,hy,c,X,t,v,Q,R,rfl,fc,fX,T⟩:=x75 l hl
 have ft:=T.td.flat
 have k75:=kx hy (cP (Ky l)) (.dZ _ (oE fc fX ft))
 rw[cL Tryz.func24 rfl aSx rfl];simp only[Z8,seval,k75,eC];exact⟨_,fL rfl (by simp only[E8,seval,ft]<;>rfl) (by simp only[Z8,seval,ft]<;>rfl) (by simp only[dW,and_self,ft]),t,v,Q,R,rfl,T⟩
end Go.Ab.Tryz
namespace Go.Ab.Tryz
open Classical Go.Proofs Go.Ab
end Go.Ab.Tryz
namespace Go.Ab.Tryz
open Classical Go.Proofs Go.Ab
theorem GI.now {s:aM} {v:SV} {q:Int} (h:GI s v q) (n:Int):GI { s with now:=n } v q :=
 ⟨⟨h.sd.jP,h.sd.dT,h.sd.gX,h.sd.early,h.sd.bW,h.sd.tree,h.sd.tables,h.sd.eV,h.sd.tB,h.sd.nB,h.sd.nL,h.sd.nQ,h.sd.nE,h.sd.nO,h.sd.nT,h.sd.nn⟩,h.up,h.LW,h.pos,h.nl,h.UF,h.rD,h.MV,h.nB,h.nO,h.MW,h.nE,h.SW,h.nT,h.UG,h.nQ,h.Q7,h.gY⟩
theorem RG.V1 {s:aM} {v:SV} (r:RG s v) (hs:1≤s.cFg.rD) {n:Int} (h0:s.now≤n) (h1:n≤1099511627776):RG { s with now:=n } v :=
 ⟨⟨by have:=r.now.1;show 0≤n;omega,h1⟩,r.j,r.f,fun a ha=>⟨(r.nd a ha).1,by have:=(r.nd a ha).2;show a.block.slot≤n;omega⟩,r.or,r.rt,⟨r.fe.1,Int.le_trans r.fe.2 (show Dw s s.now≤Dw s n from NN hs r.now.1 h0 (by omega))⟩,r.ds,r.tb,r.ne⟩
end Go.Ab.Tryz
namespace Go.Ab.Tryz
open Classical Go.Proofs Go.Ab
open Classical Go.Proofs Go.Ab
end Go.Ab.Tryz
namespace Go.Ab.Tryz
open Classical Go.Proofs Go.Ab
def uo {α:Type} (e sz:Nat) (c:List α→List AV):Option (List α)→AV
 | none=>.v (.slice none 0 0)
 | some l=>.uniq e sz l.length (c l)
def rl {α:Type} (e sz:Nat) (c:List α→List AV):Option (List α)→List jI
 | none=>[]
 | some l=>[.row e sz l.length (c l)]
def rv {α:Type} (d k:Nat):Option (List α)→AV
 | none=>.v (.slice none 0 0)
 | some _=>.own d k
def LC (d:Nat) (es:List jI):Option (Nat × List jI):=if es=[] then none else some (d,es)
theorem W1 (st:St) (d:Nat):st.news d []=st:=by
 unfold St.news;cases st with
 | mk env heap aO =>
   simp only[List.length_nil,Nat.not_lt_zero,and_false,if_false,Nat.add_zero,St.mk.injEq,true_and];funext s
   split
   ·rename_i h;rw[h]
   ·rfl
theorem E9 (x:Option Nat) (v:AV) (d:Nat) (es:List jI) (st:St):({ dst:=x,val:=v,new:=LC d es }:mT).apply st=(st.news d es).put x v:=by
 unfold LC;by_cases h:es=[]
 ·rw[if_pos h,h,W1];rfl
 ·rw[if_neg h];rfl
theorem W3 (st:St) (t d:Nat) (es:List jI):(st.news d es).env t=st.env t:=rfl
theorem W4 (st:St) (t d:Nat) (es:List jI):(st.news d es).aO t=if t=d then st.aO d+es.length else st.aO t:=rfl
theorem yU (st:St) (s g d:Nat) (es:List jI):(st.news d es).heap s g=if s=d∧st.aO d≤g∧g-st.aO d<es.length then es[g-st.aO d]? else st.heap s g:=rfl
theorem Bi {α:Type} {call:Nat→List AV→Option AV} {g e sz d:Nat} {args:List AV} {c:List α→List AV} {L:Option (List α)} {st:St} (hf:∀x∈args,Flat x) (h:call g args=some (uo e sz c L)) :
 aN call g args st (some d)=some { dst:=some d,val:=rv d (st.aO d) L,new:=LC d (rl e sz c L)}:=by
 cases L with
 | none =>
   simp only[aN,if_pos hf,h,cW,uo,iM,if_pos (Flat.v _),rv,rl,LC];rfl
 | some l=>rw[jE hf h];simp only[rv,rl,LC,List.cons_ne_nil,if_false]
theorem iU {α:Type} {st:St} {d k e sz:Nat} {c:List α→List AV} {L:Option (List α)} (hh:∀l,L=some l→st.heap d k=some (.row e sz l.length (c l))) (hf:∀l,L=some l→∀x∈c l,Flat x):jW st (rv d k L)=some (uo e sz c L):=by
 cases L with
 | none=>exact if_pos (Flat.v _)
 | some l =>
   have hn:¬Flat (.own d k):=by intro h;cases h
   simp only[rv,uo,jW,if_neg hn,hh l rfl,if_pos (hf l rfl)]
theorem NY {α:Type} {c:List α→List AV} {z:Nat} (hc:∀l,(c l).length=l.length * z) (hz:0<z) {l:List α} (h:l≠[]):c l≠[]:=by
 intro he;have h1:=hc l
 rw[he] at h1;have h2:0<l.length:=List.length_pos_iff.mpr h
 have:=Nat.mul_pos h2 hz
 simp only[List.length_nil] at h1;omega
theorem aSy (L:Option (List Int)) (h:L≠some []) (hn:((ol L).length:Int)<1000000):aD Tryz.prog 160 [ov bF L]=some (uo 23 1 bF L):=by
 cases L with
 | none =>
   unfold ov;rw[cL Tryz.func160 rfl aGa rfl];simp only[Z8,seval];exact bX rfl (by simp only[E8,seval]<;>rfl) (.v _)
 | some l =>
   have hl:l≠[]:=fun h2=>h (by rw[h2])
   have gT:bF l≠[]:=NY (z:=1) (fun l=>by simp[Qy]) (by omega) hl
   have ha:=fun s g=>Iv (e:=23) (sz:=1) (by_:=8) (s:=s) (g:=g) (n:=l.length) (cs:=bF l) (by simp[Qy]) (by simp only[ol,Option.getD_some] at hn;omega) (by simp only[ol,Option.getD_some] at hn;unfold maxLen;omega)
   unfold ov;rw[cL Tryz.func160 rfl aGa rfl];simp only[Z8,seval,gT,ha];exact tD rfl (by simp only[E8,seval];rfl) (by simp only[E8,seval]) (iC _)
theorem aNh (L:Option (List Int)) (h:L≠some []) (hn:((ol L).length:Int)<1000000) (st:St) (d:Nat):aN (aD Tryz.prog) 160 [ov bF L] st (some d)=some { dst:=some d,val:=rv d (st.aO d) L,new:=LC d (rl 23 1 bF L)}:=Bi (cP (dU L)) (aSy L h hn)
theorem aSz (L:Option (List kS)) (h:L≠some []) (hn:((ol L).length:Int)<1000000):aD Tryz.prog 190 [ov cO L]=some (uo 100 34 cO L):=by
 cases L with
 | none =>
   unfold ov;rw[cL Tryz.func190 rfl aGb rfl];simp only[Z8,seval];exact bX rfl (by simp only[E8,seval]<;>rfl) (.v _)
 | some l =>
   have hl:l≠[]:=fun h2=>h (by rw[h2])
   have gT:cO l≠[]:=NY (z:=34) (fun l=>by simp) (by omega) hl
   have ha:=fun s g=>Iv (e:=100) (sz:=34) (by_:=48) (s:=s) (g:=g) (n:=l.length) (cs:=cO l) (by simp) (by simp only[ol,Option.getD_some] at hn;omega) (by simp only[ol,Option.getD_some] at hn;unfold maxLen;omega)
   unfold ov;rw[cL Tryz.func190 rfl aGb rfl];simp only[Z8,seval,gT,ha];exact tD rfl (by simp only[E8,seval];rfl) (by simp only[E8,seval]) (nG _)
theorem aSA (L:Option (List kS)) (h:L≠some []) (hn:((ol L).length:Int)<1000000) (st:St) (d:Nat):aN (aD Tryz.prog) 190 [ov cO L] st (some d)=some { dst:=some d,val:=rv d (st.aO d) L,new:=LC d (rl 100 34 cO L)}:=Bi (cP (rC L)) (aSz L h hn)
theorem aSB (L:Option (List Int)) (h:L≠some []) (hn:((ol L).length:Int)<1000000):aD Tryz.prog 191 [ov aJ L]=some (uo 3 1 aJ L):=by
 cases L with
 | none =>
   unfold ov;rw[cL Tryz.func191 rfl aGc rfl];simp only[Z8,seval];exact bX rfl (by simp only[E8,seval]<;>rfl) (.v _)
 | some l =>
   have hl:l≠[]:=fun h2=>h (by rw[h2])
   have gT:aJ l≠[]:=NY (z:=1) (fun l=>by simp[Jd]) (by omega) hl
   have ha:=fun s g=>Iv (e:=3) (sz:=1) (by_:=8) (s:=s) (g:=g) (n:=l.length) (cs:=aJ l) (by simp[Jd]) (by simp only[ol,Option.getD_some] at hn;omega) (by simp only[ol,Option.getD_some] at hn;unfold maxLen;omega)
   unfold ov;rw[cL Tryz.func191 rfl aGc rfl];simp only[Z8,seval,gT,ha];exact tD rfl (by simp only[E8,seval];rfl) (by simp only[E8,seval]) (gD _)
theorem aNi (L:Option (List Int)) (h:L≠some []) (hn:((ol L).length:Int)<1000000) (st:St) (d:Nat):aN (aD Tryz.prog) 191 [ov aJ L] st (some d)=some { dst:=some d,val:=rv d (st.aO d) L,new:=LC d (rl 3 1 aJ L)}:=Bi (cP (bQ L)) (aSB L h hn)
theorem aSC (L:Option (List Block)) (h:L≠some []) (hn:((ol L).length:Int)<1000000):aD Tryz.prog 164 [ov aH L]=some (uo 74 238 aH L):=by
 cases L with
 | none =>
   unfold ov;rw[cL Tryz.func164 rfl aGd rfl];simp only[Z8,seval];exact bX rfl (by simp only[E8,seval]<;>rfl) (.v _)
 | some l =>
   have hl:l≠[]:=fun h2=>h (by rw[h2])
   have gT:aH l≠[]:=NY (z:=238) (fun l=>by simp) (by omega) hl
   have ha:=fun s g=>Iv (e:=74) (sz:=238) (by_:=336) (s:=s) (g:=g) (n:=l.length) (cs:=aH l) (by simp) (by simp only[ol,Option.getD_some] at hn;omega) (by simp only[ol,Option.getD_some] at hn;unfold maxLen;omega)
   unfold ov;rw[cL Tryz.func164 rfl aGd rfl];simp only[Z8,seval,gT,ha];exact tD rfl (by simp only[E8,seval];rfl) (by simp only[E8,seval]) (pE _)
theorem aSD (L:Option (List Block)) (h:L≠some []) (hn:((ol L).length:Int)<1000000) (st:St) (d:Nat):aN (aD Tryz.prog) 164 [ov aH L] st (some d)=some { dst:=some d,val:=rv d (st.aO d) L,new:=LC d (rl 74 238 aH L)}:=Bi (cP (Ej L)) (aSC L h hn)
theorem aSE (L:Option (List Request)) (h:L≠some []) (hn:((ol L).length:Int)<1000000):aD Tryz.prog 148 [ov aA L]=some (uo 63 35 aA L):=by
 cases L with
 | none =>
   unfold ov;rw[cL Tryz.func148 rfl aGe rfl];simp only[Z8,seval];exact bX rfl (by simp only[E8,seval]<;>rfl) (.v _)
 | some l =>
   have hl:l≠[]:=fun h2=>h (by rw[h2])
   have gT:aA l≠[]:=NY (z:=35) (fun l=>by simp) (by omega) hl
   have ha:=fun s g=>Iv (e:=63) (sz:=35) (by_:=56) (s:=s) (g:=g) (n:=l.length) (cs:=aA l) (by simp) (by simp only[ol,Option.getD_some] at hn;omega) (by simp only[ol,Option.getD_some] at hn;unfold maxLen;omega)
   unfold ov;rw[cL Tryz.func148 rfl aGe rfl];simp only[Z8,seval,gT,ha];exact tD rfl (by simp only[E8,seval];rfl) (by simp only[E8,seval]) (iX _)
theorem aNj (L:Option (List Request)) (h:L≠some []) (hn:((ol L).length:Int)<1000000) (st:St) (d:Nat):aN (aD Tryz.prog) 148 [ov aA L] st (some d)=some { dst:=some d,val:=rv d (st.aO d) L,new:=LC d (rl 63 35 aA L)}:=Bi (cP (dI L)) (aSE L h hn)
theorem rI {α:Type} {st:St} {d k e sz:Nat} {c:List α→List AV} {L:Option (List α)} (hh:∀l,L=some l→st.heap d k=some (.row e sz l.length (c l))) (hf:∀l,L=some l→∀x∈c l,Flat x):cM st (rv d k L)=some (ov c L):=by
 cases L with
 | none=>exact if_pos (Flat.v _)
 | some l =>
   have hn:¬Flat (.own d k):=by intro h;cases h
   simp only[rv,ov,cM,if_neg hn,hh l rfl,if_pos (hf l rfl)]
theorem W5 {α:Type} (d k:Nat) (L:Option (List α)):(rv d k L).cells=[rv d k L]:=by cases L<;>rfl
theorem aDl {α:Type} (d k:Nat) (L:Option (List α)):(rv d k L).jR=true:=by cases L<;>rfl
def NW:=aj (aj (aj @E9 @W3) (aj @W4 @yU)) (aj @W5 @aDl)
theorem aSF (a:sJ) (V:Option (List Int)) (ha:a.eW=ov aJ V) (h:V≠some []) (hn:((ol V).length:Int)<1000000):aD Tryz.prog 163 [.agg (hU a)]=some (.agg (hU a)):=by
 rw[cL Tryz.func163 rfl aNk rfl];simp only[Z8,seval,ha,aNi V h hn,NW];refine eB rfl (by simp only[E8,seval,NW]<;>rfl) (cs:=hU { a with eW:=rv 5 0 V }) (by simp only[Z8,seval,NW]<;>rfl) ?_
 rw[bR,lY,rI (e:=3) (sz:=1) (c:=aJ) (L:=V) ?h (fun l _=>gD l),cW,cW,← ha]
 case h =>
  intro l hl;subst hl;simp only[E8,seval,yU,rl,List.length_cons,Nat.lt_add_left_iff_pos,Nat.zero_lt_succ,if_true]
end Go.Ab.Tryz
namespace Go.Ab
open Classical
theorem Ny [Ext] {P:Program} {call:Nat→List AV→Option AV} {ops:Array Oper} {d:Option Nat} {T:Nat} {pos:String} {eM:Array Edge} {st:St} (t:Nat) (args:Array Operand) (tJ:Array Nat) (g:Nat) (h:st.env t=.v (.func (.func g) #[] #[])):cE P call ops ⟨d,.call ⟨.value (.tmp t),args,tJ⟩,T,pos,eM,none⟩ st=cC (aN call g (args.toList.map st.ev) st d) fun e=>some (e.apply st):=by
 rw[dR];simp only[cZ,gP,mQ,St.ev,h,BJ,and_self,if_true,List.append_nil];cases aN call g (args.toList.map st.ev) st d<;>rfl
end Go.Ab
namespace Go.Ab.Tryz
open Classical Go.Proofs Go.Ab
theorem aSG (a:Table) (V:Option (List Int)) (ha:a.jP=ov bF V) (h:V≠some []) (hn:((ol V).length:Int)<1000000):aD Tryz.prog 194 [.agg (cI a)]=some (.agg (cI a)):=by
 rw[cL Tryz.func194 rfl aNl rfl];simp only[Z8,seval,ha,aNh V h hn,NW];refine eB rfl (by simp only[E8,seval,NW]<;>rfl) (cs:=cI { a with jP:=rv 5 0 V }) (by simp only[Z8,seval,NW]<;>rfl) ?_
 rw[bR,tS,rI (e:=23) (sz:=1) (c:=bF) (L:=V) ?h (fun l _=>iC l),cW,cW,← ha]
 case h =>
  intro l hl;subst hl;simp only[E8,seval,yU,rl,List.length_cons,Nat.lt_add_left_iff_pos,Nat.zero_lt_succ,if_true]
theorem ZW {α:Type} (z:α) (l:List α) (k:Nat) (h:k<l.length):l.take k++[gx z l (k:Int)]=l.take (k+1):=by
 rw[List.take_succ_eq_append_getElem h];congr 2
 simp[gx,h]
theorem aSH (E:Option (List sJ)) (h:E≠some []) (hn:((ol E).length:Int)<1000000) (hE:∀a∈ol E,∃V,a.eW=ov aJ (some V)∧V≠[]) (hA:∀a∈ol E,Cs a) :
 aD Tryz.prog 162 [ov dH E,.v (.func (.func 163) #[] #[])]=some (uo 87 67 dH E):=by
 have kU:∀y∈ol E,Flat y.eW:=fun y m=>(hA y m).fl
 have kg:∀k:Nat,k<(ol E).length→∀(st:St) (d:Option Nat),aN (aD Tryz.prog) 163 [.agg (hU (gx Jm (ol E) (k:Int)))] st d=some { dst:=d,val:=.agg (hU (gx Jm (ol E) (k:Int)))}:=by
  intro k hk st d;have hm:gx Jm (ol E) (k:Int)∈ol E:=by
   have:gx Jm (ol E) (k:Int)=(ol E)[k]:=by simp[gx,hk]
   rw[this];exact List.getElem_mem hk
  obtain⟨V,hV,hV2⟩:=hE _ hm
  obtain⟨V',hV',Gj⟩:=hA _ hm
  have hfa:Flat (.agg (hU (gx Jm (ol E) (k:Int)))):=(zK _).2 (hA _ hm).fl
  have e0:((ol (some V)).length:Int)<1000000:=by
   have h0:ov aJ (some V)=ov aJ V':=by rw[← hV,← hV']
   cases V' with
   | none=>cases h0
   | some W =>
     simp only[ov,AV.sl.injEq] at h0;simp only[ol,Option.getD_some] at Gj ⊢
     omega
  exact kx (aSF _ (some V) hV (by simpa using hV2) e0) (cP hfa) hfa st d
 have hu:([ov dH E,.v (.func (.func 163) #[] #[])]:List AV).any sI=false:=by cases E<;>rfl
 rw[cL Tryz.func162 rfl aNn hu];simp only[Z8,seval];refine lV (fun m st=>∃k:Nat,(st.env 8=ov dH E∧st.env 9=.v (.int .i64 (ol E).length)∧st.env 10=.v (.int .i64 k)∧st.env 1=.v (.func (.func 163) #[] #[]))∧((k=0∧st.env 5=.v (.slice none 0 0))∨(0<k∧∃j,st.env 5=.own 19 j∧st.heap 19 j=some (.row 87 67 ((ol E).take k).length (dH ((ol E).take k)))))∧k≤(ol E).length∧m=(ol E).length-k)
  (fun e st=>e=.exit 0∧((ol E=[]∧st.env 5=.v (.slice none 0 0))∨(ol E≠[]∧∃j,st.env 5=.own 19 j∧st.heap 19 j=some (.row 87 67 (ol E).length (dH (ol E)))))) (ol E).length ?step ?start ?rest
 case step =>
  rintro m st ⟨k,hI,hR,hk,hm⟩
  by_cases aZ:(k:Int)<(ol E).length
  ·have q0:(0:Int)≤k:=by omega
   have hw:IntKind.i64.wrap ((k:Int)+1)=((k+1:Nat):Int):=by rw[pM _ (by omega) (by omega)];omega
   have ht:=ZW Jm (ol E) k (by omega)
   have kk:=kg k (by omega)
   rcases hR with ⟨vI,h5⟩|⟨vI,j,h5,h6⟩
   ·have W6:[gx Jm (ol E) (k:Int)]=(ol E).take (k+1):=by rw[← ht,show (ol E).take k=[] by rw[vI,List.take_zero],List.nil_append]
    apply oN ((ol E).length-(k+1))
    ·simp only[Z8,seval,hI,h5,aZ,q0,kk,Ny 15 _ _ 163,HD,hw];rfl
    ·exact⟨k+1,⟨by simp only[E8,seval,hI],by simp only[E8,seval,hI],by simp only[E8,seval],by simp only[E8,seval,hI]⟩,.inr ⟨by omega,_,by simp only[E8,seval]<;>rfl,by rw[← W6];simp only[E8,seval]<;>rfl⟩,by omega,rfl⟩
   ·have ao:=fun s g=>Vj ((ol E).take k) (gx Jm (ol E) (k:Int)) s g (by rw[List.length_take];omega)
    apply oN ((ol E).length-(k+1))
    ·simp only[Z8,seval,hI,h5,h6,aZ,q0,kk,Ny 15 _ _ 163,ao,hw];rfl
    ·exact⟨k+1,⟨by simp only[E8,seval,hI],by simp only[E8,seval,hI],by simp only[E8,seval],by simp only[E8,seval,hI]⟩,.inr ⟨by omega,_,by simp only[E8,seval]<;>rfl,by rw[← ht];simp only[E8,seval]<;>rfl⟩,by omega,rfl⟩
  ·have Dv:k=(ol E).length:=by omega
   have hF:(ol E=[]∧st.env 5=.v (.slice none 0 0))∨(ol E≠[]∧∃j,st.env 5=.own 19 j∧st.heap 19 j=some (.row 87 67 (ol E).length (dH (ol E)))):=by
    rcases hR with ⟨vI,h5⟩|⟨vI,j,h5,h6⟩
    ·exact .inl ⟨List.eq_nil_of_length_eq_zero (by omega),h5⟩
    ·exact .inr ⟨by intro h0;rw[h0] at Dv;simp at Dv;omega,j,h5,by rw[h6,Dv,List.take_length]⟩
   apply oT (.exit 0)
   ·simp only[Z8,seval,hI,aZ];rfl
   ·exact⟨rfl,by simp only[E8,seval];exact hF⟩
 case start=>exact⟨0,by simp only[E8,seval]<;>exact⟨rfl,rfl,rfl,rfl⟩,.inl ⟨rfl,by simp only[E8,seval]<;>rfl⟩,by omega,by omega⟩
 case rest =>
  rintro e st ⟨rfl,hR⟩
  rcases hR with ⟨h0,h5⟩|⟨h0,j,h5,h6⟩
  ·simp only[Z8,seval,h5];cases E with
   | none=>exact bX rfl (by simp only[E8,seval]<;>rfl) (.v _)
   | some l=>exact absurd (show (some l:Option (List sJ))=some [] by rw[show l=[] from h0]) h
  ·simp only[Z8,seval,h5];cases E with
   | none=>exact absurd rfl h0
   | some l=>exact tD rfl (by simp only[E8,seval];rfl) (by simp only[E8,seval];exact h6) (tH _ kU)
theorem aSK (E:Option (List sJ)) (h:E≠some []) (hn:((ol E).length:Int)<1000000) (hE:∀a∈ol E,∃V,a.eW=ov aJ (some V)∧V≠[]) (hA:∀a∈ol E,Cs a) (st:St) (d:Nat) :
 aN (aD Tryz.prog) 162 [ov dH E,.v (.func (.func 163) #[] #[])] st (some d)=some { dst:=some d,val:=rv d (st.aO d) E,new:=LC d (rl 87 67 dH E)} :=
 Bi (fun x m=>by
  rcases List.mem_cons.1 m with rfl|m
  ·exact Ww E fun y m=>(hA y m).fl
  ·rw[List.mem_singleton.1 m];exact .v _) (aSH E h hn hE hA)
theorem aSL (E:Option (List Table)) (h:E≠some []) (hn:((ol E).length:Int)<1000000) (hE:∀a∈ol E,∃V,a.jP=ov bF (some V)∧V≠[]) (hA:∀a∈ol E,sN a) :
 aD Tryz.prog 193 [ov aR E,.v (.func (.func 194) #[] #[])]=some (uo 118 34 aR E):=by
 have kU:∀y∈ol E,Flat y.jP:=fun y m=>(hA y m).fl
 have kg:∀k:Nat,k<(ol E).length→∀(st:St) (d:Option Nat),aN (aD Tryz.prog) 194 [.agg (cI (gx iY (ol E) (k:Int)))] st d=some { dst:=d,val:=.agg (cI (gx iY (ol E) (k:Int)))}:=by
  intro k hk st d;have hm:gx iY (ol E) (k:Int)∈ol E:=by
   have:gx iY (ol E) (k:Int)=(ol E)[k]:=by simp[gx,hk]
   rw[this];exact List.getElem_mem hk
  obtain⟨V,hV,hV2⟩:=hE _ hm
  obtain⟨V',hV',Gj⟩:=hA _ hm
  have hfa:Flat (.agg (cI (gx iY (ol E) (k:Int)))):=(kM _).2 (hA _ hm).fl
  have e0:((ol (some V)).length:Int)<1000000:=by
   have h0:ov bF (some V)=ov bF V':=by rw[← hV,← hV']
   cases V' with
   | none=>cases h0
   | some W =>
     simp only[ov,AV.sl.injEq] at h0;simp only[ol,Option.getD_some] at Gj ⊢
     omega
  exact kx (aSG _ (some V) hV (by simpa using hV2) e0) (cP hfa) hfa st d
 have hu:([ov aR E,.v (.func (.func 194) #[] #[])]:List AV).any sI=false:=by cases E<;>rfl
 rw[cL Tryz.func193 rfl aNo hu];simp only[Z8,seval];refine lV (fun m st=>∃k:Nat,(st.env 8=ov aR E∧st.env 9=.v (.int .i64 (ol E).length)∧st.env 10=.v (.int .i64 k)∧st.env 1=.v (.func (.func 194) #[] #[]))∧((k=0∧st.env 5=.v (.slice none 0 0))∨(0<k∧∃j,st.env 5=.own 19 j∧st.heap 19 j=some (.row 118 34 ((ol E).take k).length (aR ((ol E).take k)))))∧k≤(ol E).length∧m=(ol E).length-k)
  (fun e st=>e=.exit 0∧((ol E=[]∧st.env 5=.v (.slice none 0 0))∨(ol E≠[]∧∃j,st.env 5=.own 19 j∧st.heap 19 j=some (.row 118 34 (ol E).length (aR (ol E)))))) (ol E).length ?step ?start ?rest
 case step =>
  rintro m st ⟨k,hI,hR,hk,hm⟩
  by_cases aZ:(k:Int)<(ol E).length
  ·have q0:(0:Int)≤k:=by omega
   have hw:IntKind.i64.wrap ((k:Int)+1)=((k+1:Nat):Int):=by rw[pM _ (by omega) (by omega)];omega
   have ht:=ZW iY (ol E) k (by omega)
   have kk:=kg k (by omega)
   rcases hR with ⟨vI,h5⟩|⟨vI,j,h5,h6⟩
   ·have W6:[gx iY (ol E) (k:Int)]=(ol E).take (k+1):=by rw[← ht,show (ol E).take k=[] by rw[vI,List.take_zero],List.nil_append]
    apply oN ((ol E).length-(k+1))
    ·simp only[Z8,seval,hI,h5,aZ,q0,kk,Ny 15 _ _ 194,FC,hw];rfl
    ·exact⟨k+1,⟨by simp only[E8,seval,hI],by simp only[E8,seval,hI],by simp only[E8,seval],by simp only[E8,seval,hI]⟩,.inr ⟨by omega,_,by simp only[E8,seval]<;>rfl,by rw[← W6];simp only[E8,seval]<;>rfl⟩,by omega,rfl⟩
   ·have ao:=fun s g=>Qm ((ol E).take k) (gx iY (ol E) (k:Int)) s g (by rw[List.length_take];omega)
    apply oN ((ol E).length-(k+1))
    ·simp only[Z8,seval,hI,h5,h6,aZ,q0,kk,Ny 15 _ _ 194,ao,hw];rfl
    ·exact⟨k+1,⟨by simp only[E8,seval,hI],by simp only[E8,seval,hI],by simp only[E8,seval],by simp only[E8,seval,hI]⟩,.inr ⟨by omega,_,by simp only[E8,seval]<;>rfl,by rw[← ht];simp only[E8,seval]<;>rfl⟩,by omega,rfl⟩
  ·have Dv:k=(ol E).length:=by omega
   have hF:(ol E=[]∧st.env 5=.v (.slice none 0 0))∨(ol E≠[]∧∃j,st.env 5=.own 19 j∧st.heap 19 j=some (.row 118 34 (ol E).length (aR (ol E)))):=by
    rcases hR with ⟨vI,h5⟩|⟨vI,j,h5,h6⟩
    ·exact .inl ⟨List.eq_nil_of_length_eq_zero (by omega),h5⟩
    ·exact .inr ⟨by intro h0;rw[h0] at Dv;simp at Dv;omega,j,h5,by rw[h6,Dv,List.take_length]⟩
   apply oT (.exit 0)
   ·simp only[Z8,seval,hI,aZ];rfl
   ·exact⟨rfl,by simp only[E8,seval];exact hF⟩
 case start=>exact⟨0,by simp only[E8,seval]<;>exact⟨rfl,rfl,rfl,rfl⟩,.inl ⟨rfl,by simp only[E8,seval]<;>rfl⟩,by omega,by omega⟩
 case rest =>
  rintro e st ⟨rfl,hR⟩
  rcases hR with ⟨h0,h5⟩|⟨h0,j,h5,h6⟩
  ·simp only[Z8,seval,h5];cases E with
   | none=>exact bX rfl (by simp only[E8,seval]<;>rfl) (.v _)
   | some l=>exact absurd (show (some l:Option (List Table))=some [] by rw[show l=[] from h0]) h
  ·simp only[Z8,seval,h5];cases E with
   | none=>exact absurd rfl h0
   | some l=>exact tD rfl (by simp only[E8,seval];rfl) (by simp only[E8,seval];exact h6) (lX _ kU)
theorem aSM (E:Option (List Table)) (h:E≠some []) (hn:((ol E).length:Int)<1000000) (hE:∀a∈ol E,∃V,a.jP=ov bF (some V)∧V≠[]) (hA:∀a∈ol E,sN a) (st:St) (d:Nat) :
 aN (aD Tryz.prog) 193 [ov aR E,.v (.func (.func 194) #[] #[])] st (some d)=some { dst:=some d,val:=rv d (st.aO d) E,new:=LC d (rl 118 34 aR E)} :=
 Bi (fun x m=>by
  rcases List.mem_cons.1 m with rfl|m
  ·exact lW E fun y m=>(hA y m).fl
  ·rw[List.mem_singleton.1 m];exact .v _) (aSL E h hn hE hA)
theorem Xz (f:Nat→AV→AV × List jI) (c:Nat) (xs ys:List AV):pY f c (xs++ys)=((pY f c xs).1++(pY f (c+(pY f c xs).2.length) ys).1,(pY f c xs).2++(pY f (c+(pY f c xs).2.length) ys).2):=by
 induction xs generalizing c with
 | nil=>simp[pY]
 | cons x xs ih=>simp only[List.cons_append,pY,ih,List.length_append,Nat.add_assoc,List.append_assoc]
theorem Je (d c:Nat) {x:AV} (h:Flat x):xZ d c x=(x,[]):=by cases h<;>rfl
theorem rY (d c:Nat) {xs:List AV} (h:∀x∈xs,Flat x):pY (xZ d) c xs=(xs,[]):=by
 induction xs generalizing c with
 | nil=>rfl
 | cons x xs ih=>simp only[pY,Je d c (h x (by simp)),List.length_nil,Nat.add_zero,ih c fun y m=>h y (by simp[m]),List.nil_append]
theorem Vn {α:Type} (d c e sz:Nat) (cs:List α→List AV) (L:Option (List α)):pY (xZ d) c [uo e sz cs L]=([rv d c L],rl e sz cs L):=by cases L<;>rfl
theorem HJ {call:Nat→List AV→Option AV} {g d:Nat} {args cs:List AV} {st:St} (hf:∀x∈args,Flat x) (h:call g args=some (.agg cs)) (hn:Flat (.agg cs)∨(pY (xZ d) (st.aO d) cs).2≠[]) :
 aN call g args st (some d)=some { dst:=some d,val:=.agg (pY (xZ d) (st.aO d) cs).1,new:=LC d (pY (xZ d) (st.aO d) cs).2 }:=by
 unfold aN;rw[if_pos hf,h,cW];unfold iM;by_cases hF:Flat (.agg cs)
 ·have hc:∀x∈cs,Flat x:=by cases hF with|agg _ h=>exact h
  rw[if_pos hF,rY d _ hc];rfl
 ·rw[if_neg hF];have h2:=hn.resolve_left hF
  simp only[LC,if_neg h2];rfl
noncomputable def Uc (st:St) (cs:List AV):Option (List AV):=bP (cs.map (jW st))
theorem Ya (st:St) (a b:List AV):Uc st (a++b)=cC (Uc st a) fun x=>cC (Uc st b) fun y=>some (x++y):=by
 unfold Uc;induction a with
 | nil=>simp[bP,cC];cases bP (b.map (jW st))<;>rfl
 | cons c a ih =>
   simp only[List.cons_append,List.map_cons];cases jW st c with
   | none=>rfl
   | some c' =>
     simp only[bP,ih];cases bP (a.map (jW st))<;>simp[cC]<;>cases bP (b.map (jW st))<;>rfl
theorem tV {st:St} {cs:List AV} (h:∀c∈cs,Flat c):Uc st cs=some cs:=by
 unfold Uc;induction cs with
 | nil=>rfl
 | cons c cs ih =>
   have h1:jW st c=some c:=if_pos (h c (by simp))
   simp only[List.map_cons,h1,bP,ih fun x hx=>h x (by simp[hx]),Option.map_some]
theorem rK {st:St} {x y:AV} (h:jW st x=some y):Uc st [x]=some [y]:=by simp only[Uc,List.map_cons,List.map_nil,h,bP,Option.map_some]
theorem Qz {st:St} {cs ys:List AV} (h:Uc st cs=some ys):xR st (.agg cs)=some (.agg ys):=by
 show (bP (cs.map (jW st))).map AV.agg=_
 rw[show bP (cs.map (jW st))=some ys from h];rfl
theorem NZ {x:AV} (h:Flat x):gF x=[]:=by cases h<;>rfl
theorem nI {cs:List AV} (h:∀c∈cs,Flat c):cs.flatMap gF=[]:=by
 induction cs with
 | nil=>rfl
 | cons c cs ih=>rw[List.flatMap_cons,NZ (h c (by simp)),ih fun x hx=>h x (by simp[hx]),List.nil_append]
theorem FD {α:Type} (d k:Nat) (L:Option (List α)):gF (rv d k L)=if L.isSome then [(d,k)] else []:=by cases L<;>rfl
theorem W7 (st:St) (g:Nat):st.ev (.func g)=.v (.func (.func g) #[] #[]):=rfl
theorem aSN (T:Option (List Table)) (h:T≠some []) (hn:((ol T).length:Int)<1000000) (hE:∀a∈ol T,∃V,a.jP=ov bF (some V)∧V≠[]) (hA:∀a∈ol T,sN a):aD Tryz.prog 166 [ov aR T]=some (uo 118 34 aR T):=by
 have kU:∀y∈ol T,Flat y.jP:=fun y m=>(hA y m).fl
 rw[cL Tryz.func166 rfl aNp (by cases T<;>rfl)]
 simp only[Z8,seval,W7,aSM T h hn hE hA,NW];cases T with
 | none=>exact bX rfl (by simp only[E8,seval]<;>rfl) (.v _)
 | some l=>exact tD rfl (by simp only[E8,seval]<;>rfl) (by simp only[E8,seval,yU,rl,List.length_cons,Nat.lt_add_left_iff_pos,Nat.zero_lt_succ,if_true]<;>rfl) (lX _ kU)
theorem aSO (T:Option (List Table)) (h:T≠some []) (hn:((ol T).length:Int)<1000000) (hE:∀a∈ol T,∃V,a.jP=ov bF (some V)∧V≠[]) (hA:∀a∈ol T,sN a) (st:St) (d:Nat) :
 aN (aD Tryz.prog) 166 [ov aR T] st (some d)=some { dst:=some d,val:=rv d (st.aO d) T,new:=LC d (rl 118 34 aR T)}:=Bi (cP (lW T fun y m=>(hA y m).fl)) (aSN T h hn hE hA)
theorem aSP (L:Option (List kS)) (Q:Option (List Int)) (h1:L≠some []) (h2:Q≠some []) (n1:((ol L).length:Int)<1000000) (n2:((ol Q).length:Int)<1000000) :
 aD Tryz.prog 161 [.agg (fB ⟨ov cO L,ov aJ Q⟩)]=some (.agg (fB ⟨uo 100 34 cO L,uo 3 1 aJ Q⟩)):=by
 rw[cL Tryz.func161 rfl aNq rfl];simp only[Z8,seval,aSA L h1 n1,aNi Q h2 n2,NW];refine Ng rfl (.inl rfl) rfl (x:=.agg (fB ⟨rv 5 0 L,rv 8 0 Q⟩)) (by simp only[bY,Z8,seval,NW]) ?_ (Qz ?_)
 ·simp only[jK,iW,fB,List.flatMap_append,List.flatMap_cons,List.flatMap_nil,List.append_nil,FD];cases L<;>cases Q<;>simp
 ·unfold fB;rw[Ya,rK (iU (e:=100) (sz:=34) (c:=cO) ?_ fun l _=>nG l),cW,rK (iU (e:=3) (sz:=1) (c:=aJ) ?_ fun l _=>gD l),cW]
  ·intro l hl;subst hl;simp only[E8,seval,yU,rl,List.length_cons,Nat.lt_add_left_iff_pos,Nat.zero_lt_succ,if_true]<;>rfl
  ·intro l hl;subst hl;simp only[E8,seval,yU,rl,List.length_cons,Nat.lt_add_left_iff_pos,Nat.zero_lt_succ,if_true]<;>rfl
theorem Yb (d c:Nat) (L:Option (List kS)) (Q:Option (List Int)):pY (xZ d) c (fB ⟨uo 100 34 cO L,uo 3 1 aJ Q⟩)=(fB ⟨rv d c L,rv d (c+(rl 100 34 cO L).length) Q⟩,rl 100 34 cO L++rl 3 1 aJ Q):=by
 unfold fB;rw[Xz,Vn,Vn]
theorem aSQ (L:Option (List kS)) (Q:Option (List Int)) (h1:L≠some []) (h2:Q≠some []) (n1:((ol L).length:Int)<1000000) (n2:((ol Q).length:Int)<1000000) (st:St) (d:Nat) :
 aN (aD Tryz.prog) 161 [.agg (fB ⟨ov cO L,ov aJ Q⟩)] st (some d)=some { dst:=some d,val:=.agg (fB ⟨rv d (st.aO d) L,rv d (st.aO d+(rl 100 34 cO L).length) Q⟩),new:=LC d (rl 100 34 cO L++rl 3 1 aJ Q)}:=by
 rw[HJ (cP (.agg _ (qV _ (rC L) (bQ Q)))) (aSP L Q h1 h2 n1 n2) ?_,Yb];rw[Yb];cases L with
 | some l=>exact .inr (by simp[rl])
 | none =>
   cases Q with
   | some q=>exact .inr (by simp[rl])
   | none=>exact .inl (.agg _ (qV _ (.v _) (.v _)))
def SY (s:aM) (b l q e o n t:AV):aM:={ s with cFg:={ s.cFg with jP:=b },gG:=⟨l,q⟩,dV:=⟨e,o⟩,tree:=⟨n⟩,tables:=t }
theorem Yc {st:St} (s:aM) {b l q e o n t b' l' q' e' o' n' t':AV} (h1:jW st b=some b') (h2:jW st l=some l') (h3:jW st q=some q') (h4:jW st e=some e') (h5:jW st o=some o') (h6:jW st n=some n') (h7:jW st t=some t') :
 Uc st (aB (SY s b l q e o n t))=some (aB (SY s b' l' q' e' o' n' t')):=by
 simp only[SY,aB,bV,fB,jY,mW,Ya,rK h1,rK h2,rK h3,rK h4,rK h5,rK h6,rK h7,tV (uK _),tV (eA _),tV (iO _),tV (dL _),tV (lF _),cW]
theorem Kc (s:aM) (b l q e o n t:AV):(aB (SY s b l q e o n t)).flatMap gF=gF b++(gF l++(gF q++(gF e++(gF o++(gF n++gF t))))):=by
 simp only[SY,aB,bV,fB,jY,mW,List.flatMap_append,List.flatMap_cons,List.flatMap_nil,List.append_nil,nI (uK _),nI (eA _),nI (iO _),nI (dL _),nI (lF _),List.nil_append,List.append_assoc]
theorem yG {α:Type} (e sz:Nat) (c:List α→List AV) (l:List α):rl e sz c (some l)=[.row e sz l.length (c l)]:=rfl
theorem aSR {s:aM} {v:SV} (hs:SD s v) (gT:NEv v) (hB:v.B≠some []) (hL:v.L≠some []) (ht:0<v.ns.length) :
 aD Tryz.prog 109 [.agg (aB s)]=some (.agg (aB (SY s (uo 23 1 bF v.B) (uo 100 34 cO v.L) (uo 3 1 aJ v.Q) (uo 87 67 dH v.E) (uo 74 238 aH v.O) (.uniq 76 240 v.ns.length (cF v.ns)) (uo 118 34 aR v.T)))):=by
 have hv:s.gG=⟨ov cO v.L,ov aJ v.Q⟩:=by
  have h1:=hs.dT
  have h2:=hs.gX
  cases hc:s.gG with
  | mk a b=>rw[hc] at h1 h2;simp only at h1 h2;rw[h1,h2]
 rw[cL Tryz.func109 rfl aNr rfl];simp only[Z8,seval,hs.jP,hv,hs.early,hs.bW,hs.tree,hs.tables,W7,NW,aNh v.B hB hs.nB,aSQ v.L v.Q hL gT.q hs.nL hs.nQ,aSK v.E gT.e hs.nE gT.ea hs.eV,aSD v.O gT.o hs.nO,aQg v.ns ht hs.nn,aSO v.T gT.t hs.nT gT.tb hs.tB];refine Ng rfl (.inl rfl) rfl (x:=.agg (aB (SY s (rv 6 0 v.B) (rv 11 0 v.L) (rv 11 (rl 100 34 cO v.L).length v.Q) (rv 16 0 v.E) (rv 22 0 v.O) (.own 27 0) (rv 31 0 v.T)))) ?x1 ?x2 (Qz (Yc s ?b1 ?l1 ?q1 ?e1 ?o1 ?n1 ?t1))
 case x1=>simp only[bY,Z8,seval,NW,SY]
 case x2 =>
  show ((aB _).flatMap gF).Nodup
  rw[Kc];simp only[FD,show ∀a b,gF (.own a b)=[(a,b)] from fun _ _=>rfl]
  cases v.B<;>cases hvl:v.L<;>cases v.Q<;>cases v.E<;>cases v.O<;>cases v.T<;>simp[rl]
 case b1=>exact iU (fun l hl=>by simp only[E8,seval,NW,hl,yG,List.length_cons,List.length_nil,Nat.lt_add_left_iff_pos,Nat.zero_lt_succ,if_true]<;>rfl) fun l _=>iC l
 case l1 =>
  refine iU (fun l hl=>?_) fun l _=>nG l
  simp only[E8,seval,NW,hl,yG];simp
 case q1 =>
  refine iU (fun l hl=>?_) fun l _=>gD l
  simp only[E8,seval,NW,hl,yG];simp
 case e1=>exact iU (fun l hl=>by simp only[E8,seval,NW,hl,yG,List.length_cons,List.length_nil,Nat.lt_add_left_iff_pos,Nat.zero_lt_succ,if_true]<;>rfl) fun l hl=>tH l fun y m=>(hs.eV y (by rw[hl];exact m)).fl
 case o1=>exact iU (fun l hl=>by simp only[E8,seval,NW,hl,yG,List.length_cons,List.length_nil,Nat.lt_add_left_iff_pos,Nat.zero_lt_succ,if_true]<;>rfl) fun l _=>pE l
 case n1=>exact iU (L:=some v.ns) (fun l hl=>by cases hl;simp only[E8,seval,NW,yG,List.length_cons,List.length_nil,Nat.lt_add_left_iff_pos,Nat.zero_lt_succ,if_true]<;>rfl) fun l _=>kH l
 case t1=>exact iU (fun l hl=>by simp only[E8,seval,NW,hl,yG,List.length_cons,List.length_nil,Nat.lt_add_left_iff_pos,Nat.zero_lt_succ,if_true]<;>rfl) fun l hl=>lX l fun y m=>(hs.tB y (by rw[hl];exact m)).fl
theorem W8 (d c e sz n:Nat) (cs:List AV):pY (xZ d) c [.uniq e sz n cs]=([.own d c],[.row e sz n cs]):=rfl
def Am (v:SV):List jI:=rl 23 1 bF v.B++(rl 100 34 cO v.L++(rl 3 1 aJ v.Q++(rl 87 67 dH v.E++(rl 74 238 aH v.O++([.row 76 240 v.ns.length (cF v.ns)]++rl 118 34 aR v.T)))))
def nB (v:SV):Nat:=(rl 23 1 bF v.B).length
def nL (v:SV):Nat:=nB v+(rl 100 34 cO v.L).length
def nQ (v:SV):Nat:=nL v+(rl 3 1 aJ v.Q).length
def nE (v:SV):Nat:=nQ v+(rl 87 67 dH v.E).length
def nO (v:SV):Nat:=nE v+(rl 74 238 aH v.O).length
def ZX (s:aM) (v:SV) (d c:Nat):aM:=SY s (rv d c v.B) (rv d (c+nB v) v.L) (rv d (c+nL v) v.Q) (rv d (c+nQ v) v.E) (rv d (c+nE v) v.O) (.own d (c+nO v)) (rv d (c+nO v+1) v.T)
theorem Lp (s:aM) (v:SV) (d c:Nat):pY (xZ d) c (aB (SY s (uo 23 1 bF v.B) (uo 100 34 cO v.L) (uo 3 1 aJ v.Q) (uo 87 67 dH v.E) (uo 74 238 aH v.O) (.uniq 76 240 v.ns.length (cF v.ns)) (uo 118 34 aR v.T)))=(aB (ZX s v d c),Am v):=by
 simp only[SY,ZX,aB,bV,fB,jY,mW,Xz,Vn,W8,rY d _ (uK _),rY d _ (eA _),rY d _ (iO _),rY d _ (dL _),rY d _ (lF _),List.nil_append,List.length_nil,Nat.add_zero,List.append_assoc,List.length_append,List.length_cons,Am,nO,nE,nQ,nL,nB,Nat.add_assoc,List.append_nil]
theorem aSS {s:aM} {v:SV} (hs:SD s v) (gT:NEv v) (hB:v.B≠some []) (hL:v.L≠some []) (ht:0<v.ns.length) (st:St) (d:Nat) :
 aN (aD Tryz.prog) 109 [.agg (aB s)] st (some d)=some { dst:=some d,val:=.agg (aB (ZX s v d (st.aO d))),new:=some (d,Am v)}:=by
 have h0:Am v≠[]:=by simp[Am]
 rw[HJ (cP hs.flat) (aSR hs gT hB hL ht) (by rw[Lp];exact .inr h0),Lp]
 simp only[LC,if_neg h0]
theorem W9 (x:Option Nat) (y:AV) (d:Nat) (v:SV) (st:St):({ dst:=x,val:=y,new:=some (d,Am v)}:mT).apply st=(st.news d (Am v)).put x y:=rfl
theorem aDm {α:Type} (d k:Nat) (l:List α):rv d k (some l)=.own d k:=rfl
theorem mA {α:Type} (a b:List α) (n i:Nat) (h:n=a.length+i):(a++b)[n]? = b[i]?:=by
 rw[h,List.getElem?_append_right (by omega)]
 congr 1
 omega
theorem aNs (v:SV) (l:List Int) (h:v.B=some l):(Am v)[0]? = some (.row 23 1 l.length (bF l)):=by simp[Am,h,rl]
theorem aNt (v:SV) (l:List kS) (h:v.L=some l):(Am v)[nB v]? = some (.row 100 34 l.length (cO l)):=by
 unfold Am;rw[mA _ _ _ 0 (by simp[nB]),h];rfl
theorem aNu (v:SV) (l:List Int) (h:v.Q=some l):(Am v)[nL v]? = some (.row 3 1 l.length (aJ l)):=by
 unfold Am;rw[mA _ _ _ _ (show nL v=_+_ from rfl),mA _ _ _ 0 (by simp),h];rfl
theorem aNv (v:SV) (l:List sJ) (h:v.E=some l):(Am v)[nQ v]? = some (.row 87 67 l.length (dH l)):=by
 unfold Am;rw[mA _ _ _ ((rl 100 34 cO v.L).length+(rl 3 1 aJ v.Q).length) (by simp[nQ,nL,nB,Nat.add_assoc]),mA _ _ _ _ rfl,mA _ _ _ 0 (by simp),h];rfl
theorem aNw (v:SV) (l:List Block) (h:v.O=some l):(Am v)[nE v]? = some (.row 74 238 l.length (aH l)):=by
 unfold Am;rw[mA _ _ _ ((rl 100 34 cO v.L).length+((rl 3 1 aJ v.Q).length+(rl 87 67 dH v.E).length)) (by simp[nE,nQ,nL,nB,Nat.add_assoc]),mA _ _ _ _ rfl,mA _ _ _ _ rfl,mA _ _ _ 0 (by simp),h];rfl
theorem aNx (v:SV):(Am v)[nO v]? = some (.row 76 240 v.ns.length (cF v.ns)):=by
 unfold Am;rw[mA _ _ _ ((rl 100 34 cO v.L).length+((rl 3 1 aJ v.Q).length+((rl 87 67 dH v.E).length+(rl 74 238 aH v.O).length))) (by simp[nO,nE,nQ,nL,nB,Nat.add_assoc]),mA _ _ _ _ rfl,mA _ _ _ _ rfl,mA _ _ _ _ rfl,mA _ _ _ 0 (by simp)];rfl
theorem aNy (v:SV) (l:List Table) (h:v.T=some l):(Am v)[nO v+1]? = some (.row 118 34 l.length (aR l)):=by
 unfold Am;rw[mA _ _ _ ((rl 100 34 cO v.L).length+((rl 3 1 aJ v.Q).length+((rl 87 67 dH v.E).length+((rl 74 238 aH v.O).length+1)))) (by simp[nO,nE,nQ,nL,nB,Nat.add_assoc]),mA _ _ _ _ rfl,mA _ _ _ _ rfl,mA _ _ _ _ rfl,mA _ _ _ _ rfl,mA _ _ _ 0 (by simp),h];rfl
theorem ZY (x:Int):(x != x)=false:=by simp
theorem beI (x:Int):(x == x)=true:=by simp
theorem aST (o:Option (List Int)) (hn:((ol o).length:Int)<1000000):aD Tryz.prog 103 [ov bF o,ov bF o]=some (.v (.bool true)):=by
 rw[cL Tryz.func103 rfl aFS (by cases o<;>rfl)]
 refine kN ?_
 simp only[Z8,seval,ZY];refine cB (fun m st=>∃k:Nat,(st.env 0=ov bF o∧st.env 1=ov bF o∧st.env 5=.v (.int .i64 k))∧k≤(ol o).length∧m=(ol o).length-k)
  (fun e st=>e=.exit 0) (ol o).length ?step ?start ?rest
 case step =>
  rintro m st ⟨k,hI,hk,hm⟩
  by_cases aZ:(k:Int)<(ol o).length
  ·have q0:(0:Int)≤k:=by omega
   have hw:IntKind.i64.wrap ((k:Int)+1)=((k+1:Nat):Int):=by rw[pM _ (by omega) (by omega)];omega
   apply oN ((ol o).length-(k+1))
   ·simp only[Z8,seval,hI,aZ,q0,ZY,hw];rfl
   ·exact⟨k+1,by simp only[E8,seval,hI],by omega,rfl⟩
  ·apply oT (.exit 0)
   ·simp only[Z8,seval,hI,aZ];rfl
   ·exact rfl
 case start=>exact⟨0,by simp only[E8,seval]<;>exact⟨rfl,rfl,rfl⟩,by omega,by omega⟩
 case rest =>
  rintro e st rfl
  simp only[Z8,seval];exact⟨_,bX rfl (by simp only[E8,seval]<;>rfl) (by first|exact .v _|simp only[dW]),rfl⟩
theorem aC6 (o:Option (List Int)) (hn:((ol o).length:Int)<1000000) (st:St) (d:Option Nat):aN (aD Tryz.prog) 103 [ov bF o,ov bF o] st d=some { dst:=d,val:=.v (.bool true)}:=bL (bI (dU o) (dU o)) (aST o hn) (.v _)
theorem aSU (o:Option (List kS)) (hn:((ol o).length:Int)<1000000):aD Tryz.prog 104 [ov cO o,ov cO o]=some (.v (.bool true)):=by
 rw[cL Tryz.func104 rfl aNz (by cases o<;>rfl)]
 refine kN ?_
 simp only[Z8,seval,ZY];refine cB (fun m st=>∃k:Nat,(st.env 0=ov cO o∧st.env 1=ov cO o∧st.env 5=.v (.int .i64 k))∧k≤(ol o).length∧m=(ol o).length-k)
  (fun e st=>e=.exit 0) (ol o).length ?step ?start ?rest
 case step =>
  rintro m st ⟨k,hI,hk,hm⟩
  by_cases aZ:(k:Int)<(ol o).length
  ·have q0:(0:Int)≤k:=by omega
   have hw:IntKind.i64.wrap ((k:Int)+1)=((k+1:Nat):Int):=by rw[pM _ (by omega) (by omega)];omega
   apply oN ((ol o).length-(k+1))
   ·simp only[Z8,seval,hI,aZ,q0,ZY,hw];rfl
   ·exact⟨k+1,by simp only[E8,seval,hI],by omega,rfl⟩
  ·apply oT (.exit 0)
   ·simp only[Z8,seval,hI,aZ];rfl
   ·exact rfl
 case start=>exact⟨0,by simp only[E8,seval]<;>exact⟨rfl,rfl,rfl⟩,by omega,by omega⟩
 case rest =>
  rintro e st rfl
  simp only[Z8,seval];exact⟨_,bX rfl (by simp only[E8,seval]<;>rfl) (by first|exact .v _|simp only[dW]),rfl⟩
theorem aSV (o:Option (List kS)) (hn:((ol o).length:Int)<1000000) (st:St) (d:Option Nat):aN (aD Tryz.prog) 104 [ov cO o,ov cO o] st d=some { dst:=d,val:=.v (.bool true)}:=bL (bI (rC o) (rC o)) (aSU o hn) (.v _)
theorem aNA (o:Option (List Int)) (hn:((ol o).length:Int)<1000000):aD Tryz.prog 105 [ov aJ o,ov aJ o]=some (.v (.bool true)):=by
 rw[cL Tryz.func105 rfl aFR (by cases o<;>rfl)]
 refine kN ?_
 simp only[Z8,seval,ZY];refine cB (fun m st=>∃k:Nat,(st.env 0=ov aJ o∧st.env 1=ov aJ o∧st.env 5=.v (.int .i64 k))∧k≤(ol o).length∧m=(ol o).length-k)
  (fun e st=>e=.exit 0) (ol o).length ?step ?start ?rest
 case step =>
  rintro m st ⟨k,hI,hk,hm⟩
  by_cases aZ:(k:Int)<(ol o).length
  ·have q0:(0:Int)≤k:=by omega
   have hw:IntKind.i64.wrap ((k:Int)+1)=((k+1:Nat):Int):=by rw[pM _ (by omega) (by omega)];omega
   apply oN ((ol o).length-(k+1))
   ·simp only[Z8,seval,hI,aZ,q0,ZY,hw];rfl
   ·exact⟨k+1,by simp only[E8,seval,hI],by omega,rfl⟩
  ·apply oT (.exit 0)
   ·simp only[Z8,seval,hI,aZ];rfl
   ·exact rfl
 case start=>exact⟨0,by simp only[E8,seval]<;>exact⟨rfl,rfl,rfl⟩,by omega,by omega⟩
 case rest =>
  rintro e st rfl
  simp only[Z8,seval];exact⟨_,bX rfl (by simp only[E8,seval]<;>rfl) (by first|exact .v _|simp only[dW]),rfl⟩
theorem aGf (o:Option (List Int)) (hn:((ol o).length:Int)<1000000) (st:St) (d:Option Nat):aN (aD Tryz.prog) 105 [ov aJ o,ov aJ o] st d=some { dst:=d,val:=.v (.bool true)}:=bL (bI (bQ o) (bQ o)) (aNA o hn) (.v _)
theorem aSW (a:sJ) (V:Option (List Int)) (ha:a.eW=ov aJ V) (hn:((ol V).length:Int)<1000000):aD Tryz.prog 108 [.agg (hU a),.agg (hU a)]=some (.v (.bool true)):=by
 rw[cL Tryz.func108 rfl aFT rfl];refine kN ?_
 simp only[Z8,seval,ha,beI,aGf V hn];exact⟨_,bX rfl (by simp only[E8,seval]<;>rfl) (by first|exact .v _|simp only[dW]),rfl⟩
theorem aSX (a:sJ) (h:Cs a) (st:St) (d:Option Nat):aN (aD Tryz.prog) 108 [.agg (hU a),.agg (hU a)] st d=some { dst:=d,val:=.v (.bool true)}:=by
 obtain⟨V,ha,hl⟩:=h
 have hf:Flat (.agg (hU a)):=(zK a).2 (by rw[ha];exact bQ V)
 exact bL (bI hf hf) (aSW a V ha hl) (.v _)
theorem aSY (a:Table) (V:Option (List Int)) (ha:a.jP=ov bF V) (hn:((ol V).length:Int)<1000000):aD Tryz.prog 159 [.agg (cI a),.agg (cI a)]=some (.v (.bool true)):=by
 rw[cL Tryz.func159 rfl aFU rfl];refine kN ?_
 simp only[Z8,seval,ha,beI,aC6 V hn];exact⟨_,bX rfl (by simp only[E8,seval]<;>rfl) (by first|exact .v _|simp only[dW]),rfl⟩
theorem aSZ (a:Table) (h:sN a) (st:St) (d:Option Nat):aN (aD Tryz.prog) 159 [.agg (cI a),.agg (cI a)] st d=some { dst:=d,val:=.v (.bool true)}:=by
 obtain⟨V,ha,hl⟩:=h
 have hf:Flat (.agg (cI a)):=(kM a).2 (by rw[ha];exact dU V)
 exact bL (bI hf hf) (aSY a V ha hl) (.v _)
theorem aS0 (o:Option (List Table)) (hn:((ol o).length:Int)<1000000) (hA:∀a∈ol o,sN a):aD Tryz.prog 107 [ov aR o,ov aR o]=some (.v (.bool true)):=by
 rw[cL Tryz.func107 rfl aNB (by cases o<;>rfl)]
 refine kN ?_
 simp only[Z8,seval,ZY,beI];refine cB (fun m st=>∃k:Nat,(st.env 0=ov aR o∧st.env 1=ov aR o∧st.env 5=.v (.int .i64 k))∧k≤(ol o).length∧m=(ol o).length-k)
  (fun e st=>e=.exit 0) ((ol o).length) ?step ?start ?rest
 case step =>
  rintro m st ⟨k,hI,hk,hm⟩
  by_cases aZ:(k:Int)<((ol o).length:Nat)
  ·have q0:(0:Int)≤k:=by omega
   have hw:IntKind.i64.wrap ((k:Int)+1)=((k+1:Nat):Int):=by rw[pM _ (by omega) (by omega)];omega
   have kk:=aSZ _ (hA _ (vP (z:=iY) q0 aZ))
   apply oN ((ol o).length-(k+1))
   ·simp only[Z8,seval,hI,aZ,q0,kk,ZY,hw,beI];rfl
   ·exact⟨k+1,by simp only[E8,seval,hI],by omega,rfl⟩
  ·apply oT (.exit 0)
   ·simp only[Z8,seval,hI,aZ,beI];rfl
   ·exact rfl
 case start=>exact⟨0,by simp only[E8,seval]<;>exact⟨rfl,rfl,rfl⟩,by omega,by omega⟩
 case rest =>
  rintro e st rfl
  simp only[Z8,seval];exact⟨_,bX rfl (by simp only[E8,seval]<;>rfl) (by first|exact .v _|simp only[dW]),rfl⟩
theorem aS1 (o:Option (List Table)) (hn:((ol o).length:Int)<1000000) (hA:∀a∈ol o,sN a) (st:St) (d:Option Nat):aN (aD Tryz.prog) 107 [ov aR o,ov aR o] st d=some { dst:=d,val:=.v (.bool true)} :=
 bL (bI (lW o fun y m=>(hA y m).fl) (lW o fun y m=>(hA y m).fl)) (aS0 o hn hA) (.v _)
theorem F0 {call:Nat→List AV→Option AV} {ops:Array Oper} {st:St} {T:Nat} {pos:String} {eM:Array Edge} (s x:Operand):cE Tryz.prog call ops ⟨some 26,.call ⟨.builtin .append,#[s,x],#[54,54]⟩,T,pos,eM,none⟩ st=cC (kJ Tryz.prog st 54 (st.ev s) (st.ev x)) fun u =>
 some ((st.iH u.1 u.2.1 (some u.2.2.1)).put (some 26) (.vw u.1 u.2.1 0 u.2.2.2)):=VC s x 54 26 (aDo rfl)
theorem Ev (L:List Request) (k:Nat):(aA L).take (k * 35)=aA (L.take k):=yA (c:=bU) (sz:=35) fY L k
theorem Yd (L:List Request) (k:Nat):(aA L).drop (k * 35)=aA (L.drop k):=yB (c:=bU) (sz:=35) fY L k
theorem FE (a b:List Request):aA (a++b)=aA a++aA b:=by simp[aA]
theorem Kd (l:List Request):∀c∈aA l,fJ c:=by
 intro c hc;obtain⟨x,_,hx⟩:=List.mem_flatMap.1 hc
 exact HK x c hx
theorem c81 (L:List Request) (i j:Nat) (hij:i≤j) (hj:j≤L.length) (hn:(L.length:Int)<1000000) :
 aD Tryz.prog 81 [.uniq 63 35 L.length (aA L),.v (.int .i64 i),.v (.int .i64 j)]=some (.uniq 63 35 (L.take i++L.drop j).length (aA (L.take i++L.drop j))):=by
 rw[Iy Tryz.prog Tryz.func81 rfl aNC _ _ _ _ _ (sP _ _)];have a3:(0:Int)≤i∧(i:Int)≤j∧(j:Int)≤L.length∧(L.length:Int)≤L.length:=by omega
 have s3:∀(st:St) (lo hi mx:Operand),st.heap 0 0=some (.row 63 35 L.length (aA L))→st.ev lo=.v (.int .i64 i)→st.ev hi=.v (.int .i64 j)→st.ev mx=.v (.int .i64 L.length)→wI Tryz.prog st 54 (.own 0 0) (some lo) hi mx=some (.sl ((j:Int)-i).toNat []):=fun st lo hi mx h1 h2 h3 h4=>by
  simp only[wI,yE,h1,h2,h3,h4,if_pos a3]
 by_cases e:(i:Int)=j
 ·have e':i=j:=by omega
  subst e'
  rw[List.take_append_drop];simp only[Z8,seval,jC,mI,jD,kX,mJ,s3,beI];exact NB (P:=Tryz.prog) (fn:=Tryz.f81) (s:=0) (g:=0) (.inl rfl) rfl (by unfold iI;simp only[E8,seval,jC]) (by simp only[E8,seval,jD]) (Kd L)
 have aZ:i<j:=by omega
 obtain⟨K,hK⟩:∃K,i+(L.length-j)=K:=⟨_,rfl⟩
 have hKn:K<L.length:=by omega
 obtain⟨L2,hL2⟩:∃L2,L.take i++L.drop j++L.drop K=L2:=⟨_,rfl⟩
 have l2:L2.length=L.length:=by rw[← hL2];simp;omega
 have lK:(L.take i++L.drop j).length=K:=by simp;omega
 have t2:L2.take K=L.take i++L.drop j:=by rw[← hL2,← lK];exact List.take_left
 have f1:∀(st:St) (hi:Operand),st.heap 0 0=some (.row 63 35 L.length (aA L))→st.ev hi=.v (.int .i64 i)→cS Tryz.prog st 54 (.own 0 0) none (some hi)=some (.vw 0 0 0 i):=fun st hi hh he=>by
  have h1:¬((0:Int)=i∧¬((0:Int)=0∧0<L.length)):=by omega
  have h2:(0:Int)≤i∧(i:Int)≤L.length:=by omega
  simp only[cS,yE,hh,he,if_neg h1,h2,Int.le_refl,and_self,if_true];simp
  intro h3 h4;rw[h4] at hj;simp at hj
  omega
 obtain⟨X,f2,f2v⟩:∃X,(∀(st:St) (lo:Operand),st.heap 0 0=some (.row 63 35 L.length (aA L))→st.ev lo=.v (.int .i64 j)→cS Tryz.prog st 54 (.own 0 0) (some lo) none=some X) ∧
  (∀st:St,st.heap 0 0=some (.row 63 35 L.length (aA L))→aQ st X=some (L.length-j,aA (L.drop j))):=by
  by_cases g:j=L.length
  ·refine⟨.sl 0 [],fun st lo hh he=>?_,fun st hh=>by rw[g];simp[aQ,aA]⟩
   have h1:(j:Int)=L.length∧¬((j:Int)=0∧0<L.length):=by omega
   have h2:(0:Int)≤j∧(j:Int)≤L.length:=by omega
   simp only[cS,yE,hh,he,if_pos h1,h2,Int.le_refl,and_self,if_true]
  ·refine⟨.vw 0 0 (j * 35) (L.length-j),fun st lo hh he=>?_,fun st hh=>?_⟩
   ·have h1:¬((j:Int)=L.length∧¬((j:Int)=0∧0<L.length)):=by omega
    have h2:(0:Int)≤j∧(j:Int)≤L.length:=by omega
    have h3:((L.length:Int)-(j:Int)).toNat=L.length-j:=by omega
    simp only[cS,yE,hh,he,if_neg h1,h2,h3,Int.le_refl,and_self,if_true,Int.toNat_natCast]
   ·have hb:j * 35+(L.length-j) * 35≤(aA L).length:=by rw[jU];omega
    simp only[aQ,hh,if_pos hb];rw[Yd,List.take_of_length_le (by rw[jU];simp)]
 have f3:∀st:St,st.heap 0 0=some (.row 63 35 L.length (aA L))→kJ Tryz.prog st 54 (.vw 0 0 0 i) X=some (0,0,.row 63 35 L.length (aA L2),K):=fun st hh=>by
  have hc:(63:Nat)=63∧(35:Nat)=35∧(aA (L.drop j)).length=(L.length-j) * 35∧i+(L.length-j)≤L.length:=⟨rfl,rfl,by rw[jU];simp,by omega⟩
  simp only[kJ,yE,f2v st hh,hh];rw[if_pos ⟨trivial,trivial,hc.2.2⟩,← Nat.add_mul,hK,Ev,Yd,← FE,← FE,hL2]
 have f4:∀st:St,st.heap 0 0=some (.row 63 35 L.length (aA L2))→aQ st (.vw 0 0 0 K)=some (K,aA (L.take i++L.drop j)):=fun st hh=>by
  have hb:0+K * 35≤(aA L2).length:=by rw[jU,l2];omega
  simp only[aQ,hh,if_pos hb,List.drop_zero];rw[Ev,t2]
 have f5:∀(st:St) (lo hi:Operand),st.heap 0 0=some (.row 63 35 L.length (aA L2))→st.ev lo=.v (.int .i64 K)→st.ev hi=.v (.int .i64 L.length)→cS Tryz.prog st 54 (.vw 0 0 0 K) (some lo) (some hi)=some (.vw 0 0 (K * 35) (L.length-K)):=fun st lo hi hh h1 h2=>by
  have h3:(0:Int)≤K∧(K:Int)<L.length∧(L.length:Int)≤L.length:=by omega
  have h4:((L.length:Int)-(K:Int)).toNat=L.length-K:=by omega
  simp only[cS,yE,hh,h1,h2,if_pos h3,h4,Int.toNat_natCast]
 obtain⟨Z,f6,hZ,hZm⟩:∃Z,(∀st:St,st.heap 0 0=some (.row 63 35 L.length (aA L2))→uB Tryz.prog st 54 (.vw 0 0 (K * 35) (L.length-K))=some (some (0,0,.row 63 35 L.length (aA (L.take i++L.drop j)++Z))))∧Z.length=(L.length-K) * 35∧∀c∈Z,fJ c:=by
  refine⟨(List.range (L.length-K)).flatMap fun _=>Dc.map AV.v,fun st hh=>?_, ?_,fun c hc=>?_⟩
  ·have hc:(63:Nat)=63∧(35:Nat)=35∧K * 35+(L.length-K) * 35≤(aA L2).length:=⟨rfl,rfl,by rw[jU,l2];omega⟩
   simp only[uB,yE,aDp,hh];rw[if_pos ⟨trivial,trivial,hc.2.2⟩];have hd:(aA L2).drop (K * 35+(L.length-K) * 35)=[]:=List.drop_of_length_le (by rw[jU,l2];omega)
   rw[hd,Ev,t2,List.append_nil]
  ·have hv:(Dc.map AV.v).length=35:=by kernel_rfl
   generalize L.length-K=m
   induction m with
   | zero=>rfl
   | succ m ih=>rw[List.range_succ,List.flatMap_append,List.length_append,ih];simp only[List.flatMap_cons,List.flatMap_nil,List.append_nil,hv];omega
  ·obtain⟨_,_,hc⟩:=List.mem_flatMap.1 hc
   obtain⟨x,_,rfl⟩:=List.mem_map.1 hc
   exact .v x
 have fl:((aA (L.take i++L.drop j))++Z).length=L.length * 35:=by rw[List.length_append,jU,lK,hZ,← Nat.add_mul];congr 1;omega
 simp only[Z8,seval,jC,mI,jD,kX,mJ,s3,bf e,F0,X0,f1,f2,f3,f4,f5,f6];have hE:=fun st=>aDq (st:=st) (P:=Tryz.prog) (fn:=Tryz.f81) (k:=K) (ee:=63) (sz:=35) (n:=L.length) (cs:=aA (L.take i++L.drop j)++Z) (e:=.ret) (s:=0) (g:=0) (.inl rfl) rfl
 have tk:(aA (L.take i++L.drop j)++Z).take (K * 35)=aA (L.take i++L.drop j):=by
  rw[← lK,← jU];exact List.take_left
 simp only[tk] at hE;rw[lK];exact hE _ (by unfold iI;simp only[E8,seval,jC]) (by simp only[E8,seval,jD]) (by omega) fl (fun c hc=>by
  rcases List.mem_append.1 hc with hc|hc
  ·exact Kd _ c hc
  ·exact hZm c hc)
def Ra (t:State) (S:aM) (q r:AV):State:={ t with store:=S,eK:=q,jM:=r }
def nS (v:SV):Nat:=(Am v).length
def nR (v:SV) (Q:Option (List Request)):Nat:=nS v+(rl 63 35 aA Q).length
def OA (v:SV) (Q R:Option (List Request)):List jI:=Am v++(rl 63 35 aA Q++rl 63 35 aA R)
def cpT (t:State) (v:SV) (Q R:Option (List Request)) (d c:Nat):State:=Ra t (ZX t.store v d c) (rv d (c+nS v) Q) (rv d (c+nR v Q) R)
theorem rL {α:Type} (d k e sz:Nat) (c:List α→List AV) (L:Option (List α)):gF (rv d k L)=(List.range' k (rl e sz c L).length).map (Prod.mk d):=by cases L<;>rfl
theorem aDr (s:aM) (v:SV) (d c:Nat):(aB (ZX s v d c)).flatMap gF=(List.range' c (nS v)).map (Prod.mk d):=by
 have e:nS v=(rl 23 1 bF v.B).length+((rl 100 34 cO v.L).length+((rl 3 1 aJ v.Q).length+((rl 87 67 dH v.E).length+((rl 74 238 aH v.O).length+(1+(rl 118 34 aR v.T).length))))):=by
  simp only[nS,Am,List.length_append,List.length_cons,List.length_nil]
 unfold ZX;rw[Kc,rL d c 23 1 bF v.B,rL d (c+nB v) 100 34 cO v.L,rL d (c+nL v) 3 1 aJ v.Q,rL d (c+nQ v) 87 67 dH v.E,rL d (c+nE v) 74 238 aH v.O,rL d (c+nO v+1) 118 34 aR v.T,e,
  show gF (.own d (c+nO v))=(List.range' (c+nO v) 1).map (Prod.mk d) from rfl]
 simp only[← List.map_append];congr 1
 have a:=fun s m n=>(List.range'_append_1 (s:=s) (m:=m) (n:=n)).symm
 rw[a c,a (c+_),a (c+_+_),a (c+_+_+_),a (c+_+_+_+_),a (c+_+_+_+_+_)];simp only[nO,nE,nQ,nL,nB,Nat.add_assoc]
theorem X3 (t:State) (v:SV) (Q R:Option (List Request)) (a b c:Nat):(aE (Ra t (ZX t.store v a 0) (rv b 0 Q) (rv c 0 R))).flatMap gF=(List.range' 0 (nS v)).map (Prod.mk a)++((List.range' 0 (rl 63 35 aA Q).length).map (Prod.mk b)++(List.range' 0 (rl 63 35 aA R).length).map (Prod.mk c)):=by
 simp only[Ra,aE,List.flatMap_append,List.flatMap_cons,List.flatMap_nil,List.append_nil,aDr,nI (eA _),nI (mM _),nI (lD _),rL b 0 63 35 aA Q,rL c 0 63 35 aA R]
theorem Ye (t:State) (v:SV) (Q R:Option (List Request)) (d c:Nat):pY (xZ d) c (aE (Ra t (SY t.store (uo 23 1 bF v.B) (uo 100 34 cO v.L) (uo 3 1 aJ v.Q) (uo 87 67 dH v.E) (uo 74 238 aH v.O) (.uniq 76 240 v.ns.length (cF v.ns)) (uo 118 34 aR v.T)) (uo 63 35 aA Q) (uo 63 35 aA R)))=(aE (cpT t v Q R d c),OA v Q R):=by
 unfold cpT Ra aE;simp only[Xz,Lp,Vn,rY d _ (eA _),rY d _ (mM _),rY d _ (lD _),List.length_nil,Nat.add_zero,List.append_nil,OA,nR,nS,Nat.add_assoc]
theorem aND (v:SV) (j:Nat):(if j<(Am v).length then (Am v)[j]? else none)=(Am v)[j]?:=by
 split
 ·rfl
 ·rw[List.getElem?_eq_none (by omega)]
theorem aDs {st:St} {s:aM} {v:SV} (hs:SD s v) {d c:Nat} (hh:∀j,j<nS v→st.heap d (c+j)=(Am v)[j]?):Uc st (aB (ZX s v d c))=some (aB (SY s (uo 23 1 bF v.B) (uo 100 34 cO v.L) (uo 3 1 aJ v.Q) (uo 87 67 dH v.E) (uo 74 238 aH v.O) (.uniq 76 240 v.ns.length (cF v.ns)) (uo 118 34 aR v.T))):=by
 have ix:∀ {j:Nat} {e:jI},(Am v)[j]? = some e→st.heap d (c+j)=some e:=fun h=>by rw[hh _ (List.getElem?_eq_some_iff.1 h).1,h]
 exact Yc s (iU (fun l hl=>by have:=ix (aNs v l hl);rwa [Nat.add_zero] at this) fun l _=>iC l) (iU (fun l hl=>ix (aNt v l hl)) fun l _=>nG l) (iU (fun l hl=>ix (aNu v l hl)) fun l _=>gD l)
  (iU (fun l hl=>ix (aNv v l hl)) fun l hl=>tH l fun y m=>(hs.eV y (by rw[hl];exact m)).fl) (iU (fun l hl=>ix (aNw v l hl)) fun l _=>pE l)
  (iU (L:=some v.ns) (fun l hl=>by cases hl;exact ix (aNx v)) fun l _=>kH l) (iU (fun l hl=>by have:=ix (aNy v l hl);rwa [← Nat.add_assoc] at this) fun l hl=>lX l fun y m=>(hs.tB y (by rw[hl];exact m)).fl)
theorem aHz {st:St} {s:aM} {v:SV} (hs:SD s v) {d c:Nat} (hh:∀j,j<nS v→st.heap d (c+j)=(Am v)[j]?):BV st (aB (ZX s v d c))=some (aB s):=by
 have ix:∀ {j:Nat} {e:jI},(Am v)[j]? = some e→st.heap d (c+j)=some e:=fun h=>by rw[hh _ (List.getElem?_eq_some_iff.1 h).1,h]
 rw[gH];simp only[ZX,SY];rw[rI (e:=23) (sz:=1) (c:=bF) (fun l hl=>by have:=ix (aNs v l hl);rwa [Nat.add_zero] at this) (fun l _=>iC l),cW,
  rI (e:=100) (sz:=34) (c:=cO) (fun l hl=>ix (aNt v l hl)) (fun l _=>nG l),cW,
  rI (e:=3) (sz:=1) (c:=aJ) (fun l hl=>ix (aNu v l hl)) (fun l _=>gD l),cW,
  rI (e:=87) (sz:=67) (c:=dH) (fun l hl=>ix (aNv v l hl)) (fun l hl=>tH l fun y m=>(hs.eV y (by rw[hl];exact m)).fl),cW,
  rI (e:=74) (sz:=238) (c:=aH) (fun l hl=>ix (aNw v l hl)) (fun l _=>pE l),cW,
  ← aDm d (c+nO v) v.ns,rI (e:=76) (sz:=240) (c:=cF) (fun l hl=>by cases hl;exact ix (aNx v)) (fun l _=>kH l),cW,
  rI (e:=118) (sz:=34) (c:=aR) (fun l hl=>by have:=ix (aNy v l hl);rwa [← Nat.add_assoc] at this) (fun l hl=>lX l fun y m=>(hs.tB y (by rw[hl];exact m)).fl),cW]
 have hn:ov cF (some v.ns)=s.tree.nodes:=by rw[hs.tree];rfl
 rw[hn,← hs.jP,← hs.dT,← hs.gX,← hs.early,← hs.bW,← hs.tables]
theorem VD {st:St} {t:State} {v:SV} (hs:SD t.store v) {d c:Nat} {q r q' r':AV} (hh:∀j,j<nS v→st.heap d (c+j)=(Am v)[j]?) (h1:cM st q=some q') (h2:cM st r=some r'):fU st (.agg (aE (Ra t (ZX t.store v d c) q r)))=some (.agg (aE (Ra t t.store q' r'))):=by
 rw[bR];simp only[Ra,aE,uL,aHz hs hh,wM,h1,h2,jG (eA _),jG (mM _),jG (lD _),mZ,cW]
theorem c80 {t:State} {v:SV} {Q R:Option (List Request)} (h:TD t v Q R) (gT:NEv v) (hB:v.B≠some []) (hL:v.L≠some []) (ht:0<v.ns.length) (hQ:Q≠some []) (hR:R≠some []) :
 aD Tryz.prog 80 [.agg (aE t)]=some (.agg (aE (Ra t (SY t.store (uo 23 1 bF v.B) (uo 100 34 cO v.L) (uo 3 1 aJ v.Q) (uo 87 67 dH v.E) (uo 74 238 aH v.O) (.uniq 76 240 v.ns.length (cF v.ns)) (uo 118 34 aR v.T)) (uo 63 35 aA Q) (uo 63 35 aA R)))):=by
 have hs:=h.sd
 have nQ:((ol Q).length:Int)<1000000:=by have:=h.nQ;omega
 have nR:((ol R).length:Int)<1000000:=by have:=h.nR;omega
 rw[cL Tryz.func80 rfl aS2 rfl];simp only[Z8,seval,aSS hs gT hB hL ht,h.Bx,h.ret,aNj Q hQ nQ,aNj R hR nR,NW,W9];have key:∀st:St,(∀j,j<nS v→st.heap 5 (0+j)=(Am v)[j]?)→(∀l,Q=some l→st.heap 9 0=some (.row 63 35 l.length (aA l)))→(∀l,R=some l→st.heap 13 0=some (.row 63 35 l.length (aA l))) →
  Uc st (aE (Ra t (ZX t.store v 5 0) (rv 9 0 Q) (rv 13 0 R)))=some (aE (Ra t (SY t.store (uo 23 1 bF v.B) (uo 100 34 cO v.L) (uo 3 1 aJ v.Q) (uo 87 67 dH v.E) (uo 74 238 aH v.O) (.uniq 76 240 v.ns.length (cF v.ns)) (uo 118 34 aR v.T)) (uo 63 35 aA Q) (uo 63 35 aA R))):=fun st h1 h2 h3=>by
  simp only[Ra,aE,Ya,aDs hs h1,rK (iU h2 fun l _=>iX l),rK (iU h3 fun l _=>iX l),tV (eA _),tV (mM _),tV (lD _),cW]
 refine Ng rfl (.inl rfl) rfl (x:=.agg (aE (Ra t (ZX t.store v 5 0) (rv 9 0 Q) (rv 13 0 R)))) ?x1 ?x2 (Qz (key _ ?h1 ?h2 ?h3))
 case x1=>simp only[bY,Z8,seval,NW,Ra]
 case x2 =>
  show ((aE _).flatMap gF).Nodup
  rw[X3];have nd:∀(d n:Nat),((List.range' 0 n).map (Prod.mk d)).Nodup:=fun d n=>List.Pairwise.map (Prod.mk d) (fun a b hab e=>hab (Prod.mk.inj e).2) (List.nodup_range' (step:=1))
  refine List.nodup_append.2 ⟨nd 5 _,List.nodup_append.2 ⟨nd 9 _,nd 13 _, ?_⟩, ?_⟩
  ·intro x hx y hy;obtain⟨_,_,rfl⟩:=List.mem_map.1 hx
   obtain⟨_,_,rfl⟩:=List.mem_map.1 hy
   simp
  ·intro x hx y hy;obtain⟨_,_,rfl⟩:=List.mem_map.1 hx
   rcases List.mem_append.1 hy with hy|hy
   ·obtain⟨_,_,rfl⟩:=List.mem_map.1 hy
    simp
   ·obtain⟨_,_,rfl⟩:=List.mem_map.1 hy
    simp
 case h1 =>
  intro j hj;rw[Nat.zero_add];simp only[E8,seval,NW,true_and,Nat.zero_le,Nat.sub_zero,aND]
 case h2 =>
  intro l hl;simp only[E8,seval,NW,hl,yG,true_and,Nat.zero_le,Nat.sub_zero,List.length_cons,List.length_nil,Nat.zero_lt_succ,if_true]<;>rfl
 case h3 =>
  intro l hl;simp only[E8,seval,NW,hl,yG,true_and,Nat.zero_le,Nat.sub_zero,List.length_cons,List.length_nil,Nat.zero_lt_succ,if_true]<;>rfl
theorem X4 (v:SV) (Q R:Option (List Request)):OA v Q R≠[]:=by simp[OA,Am]
theorem k80 {t:State} {v:SV} {Q R:Option (List Request)} (h:TD t v Q R) (gT:NEv v) (hB:v.B≠some []) (hL:v.L≠some []) (ht:0<v.ns.length) (hQ:Q≠some []) (hR:R≠some []) (st:St) (d:Nat) :
 aN (aD Tryz.prog) 80 [.agg (aE t)] st (some d)=some { dst:=some d,val:=.agg (aE (cpT t v Q R d (st.aO d))),new:=some (d,OA v Q R)}:=by
 rw[HJ (cP h.flat) (c80 h gT hB hL ht hQ hR) (by rw[Ye];exact .inr (X4 v Q R)),Ye]
 simp only[LC,if_neg (X4 v Q R)]
theorem OB (x:Option Nat) (y:AV) (d:Nat) (v:SV) (Q R:Option (List Request)) (st:St):({ dst:=x,val:=y,new:=some (d,OA v Q R)}:mT).apply st=(st.news d (OA v Q R)).put x y:=rfl
theorem aNE (v:SV) (Q R:Option (List Request)) (j:Nat) (h:j<nS v):(OA v Q R)[j]? = (Am v)[j]?:=by
 unfold OA;rw[List.getElem?_append_left h]
theorem aNF (v:SV) (Q R:Option (List Request)) (l:List Request) (h:Q=some l):(OA v Q R)[nS v]? = some (.row 63 35 l.length (aA l)):=by
 unfold OA;rw[mA _ _ _ 0 (by rfl),h];rfl
theorem aS3 (v:SV) (Q R:Option (List Request)) (l:List Request) (h:R=some l):(OA v Q R)[nR v Q]? = some (.row 63 35 l.length (aA l)):=by
 unfold OA;rw[mA _ _ _ _ (show nR v Q=_+_ from rfl),mA _ _ _ 0 (by rfl),h];rfl
end Go.Ab.Tryz
namespace Go.Ab.Tryz
open Classical Go.Proofs Go.Ab
end Go.Ab.Tryz
namespace Go.Ab.Tryz
open Classical Go.Proofs Go.Ab
theorem aNG:aF 4 77 (some 54)=[]:=rfl
theorem x42 {s:aM} {v:SV} (hs:SD s v):∃r,aD Tryz.prog 42 [.agg (aB s),.agg (aB s)]=some r∧r=.v (.bool true):=by
 have kU:=hs.flat
 rw[cG Tryz.func42 rfl aS4 (by kernel_rfl) rfl]
 have kB:=aC6 v.B hs.nB
 have kL:=aSV v.L hs.nL
 have kQ:=aGf v.Q hs.nQ
 have kn:=aP4 v.ns v.ns hs.nn
 have kT:=aS1 v.T hs.nT hs.tB
 simp only[ZG,seval,Bool.false_and,Prod.mk.injEq,VE,aNG,hs.jP,hs.dT,hs.gX,hs.early,hs.bW,hs.tree,hs.tables,ZY,beI,kB,kL,kQ,kn,kT,decide_true,Bool.not_true,qD,qF];refine mH (fun m st=>∃k:Nat,(st.env 2=.ptr 2 0 0∧st.heap 2 0=some (.cells (aB s))∧st.env 3=.ptr 3 0 0∧st.heap 3 0=some (.cells (aB s))∧st.env 7=.v (.int .i64 k))∧k≤(ol v.E).length∧m=(ol v.E).length-k)
  (fun e st=>e=.exit 0∧(st.env 2=.ptr 2 0 0∧st.heap 2 0=some (.cells (aB s))∧st.env 3=.ptr 3 0 0∧st.heap 3 0=some (.cells (aB s)))) (ol v.E).length ?step ?start ?rest
 case step =>
  rintro m st ⟨k,hI,hk,hm⟩
  have hn:=hs.nE
  by_cases aZ:(k:Int)<(ol v.E).length
  ·have q0:(0:Int)≤k:=by omega
   have hw:IntKind.i64.wrap ((k:Int)+1)=((k+1:Nat):Int):=by rw[pM _ (by omega) (by omega)];omega
   have kk:=aSX _ (hs.eV _ (vP (z:=Jm) q0 aZ))
   apply En ((ol v.E).length-(k+1))
   ·simp only[ZG,seval,Bool.false_and,Prod.mk.injEq,VE,hs.early,hI,aZ,q0,kk,ZY,Bool.not_true,hw];rfl
   ·exact⟨k+1,by simp only[E8,seval,hI],by omega,rfl⟩
  ·apply LB (.exit 0)
   ·simp only[ZG,seval,Bool.false_and,Prod.mk.injEq,VE,hs.early,hI,aZ];rfl
   ·exact⟨rfl,by simp only[E8,seval,hI]⟩
 case start=>exact⟨0,by simp only[E8,seval]<;>exact⟨rfl,rfl,rfl,rfl,rfl⟩,by omega,by omega⟩
 case rest =>
  rintro e st ⟨rfl,hI⟩
  simp only[ZG,seval,Bool.false_and,Prod.mk.injEq,VE,hI];refine mH (fun m st=>∃k:Nat,(st.env 2=.ptr 2 0 0∧st.heap 2 0=some (.cells (aB s))∧st.env 3=.ptr 3 0 0∧st.heap 3 0=some (.cells (aB s))∧st.env 8=.v (.int .i64 k))∧k≤(ol v.O).length∧m=(ol v.O).length-k)
   (fun e st=>e=.exit 2) (ol v.O).length ?Nv ?Es ?Hh
  case Nv =>
   rintro m st ⟨k,hI,hk,hm⟩
   have hn:=hs.nO
   by_cases aZ:(k:Int)<(ol v.O).length
   ·have q0:(0:Int)≤k:=by omega
    have hw:IntKind.i64.wrap ((k:Int)+1)=((k+1:Nat):Int):=by rw[pM _ (by omega) (by omega)];omega
    apply En ((ol v.O).length-(k+1))
    ·simp only[ZG,seval,Bool.false_and,Prod.mk.injEq,VE,hs.bW,hI,aZ,q0,ZY,decide_true,Bool.not_true,hw];rfl
    ·exact⟨k+1,by simp only[E8,seval,hI],by omega,rfl⟩
   ·apply LB (.exit 2)
    ·simp only[ZG,seval,Bool.false_and,Prod.mk.injEq,VE,hs.bW,hI,aZ];rfl
    ·exact rfl
  case Es=>exact⟨0,by simp only[E8,seval,hI]<;>exact⟨rfl,rfl,rfl,rfl,rfl⟩,by omega,by omega⟩
  case Hh =>
   rintro e st rfl
   simp only[ZG,seval,Bool.false_and,Prod.mk.injEq,VE];exact⟨_,bX rfl (by simp only[E8,seval]<;>rfl) (by first|exact .v _|simp only[dW]),rfl⟩
theorem k42 {s:aM} {v:SV} (hs:SD s v) (st:St) (d:Option Nat):aN (aD Tryz.prog) 42 [.agg (aB s),.agg (aB s)] st d=some { dst:=d,val:=.v (.bool true)}:=by
 obtain⟨r,h,e⟩:=x42 hs
 subst e;exact bL (bI hs.flat hs.flat) h (.v _)
end Go.Ab.Tryz
namespace Go.Ab.Tryz
open Classical Go.Proofs Go.Ab
open Classical Go.Proofs Go.Ab
open Classical Go.Proofs Go.Ab
end Go.Ab.Tryz
namespace Go.Ab.Tryz
open Classical Go.Proofs Go.Ab
theorem beB (x:Bool):(x == x)=true:=by simp
theorem TI.lists {t:State} {v:SV} {Q R:Option (List Request)} {q m:Int} (T:TI t v Q R q m):v.B≠some []∧∃L,v.L=some L∧L≠[]:=by
 have h1:=T.toTI0.jP.1
 have h2:=T.gi.MV
 constructor
 ·intro h;rw[h] at h1;exact absurd h1 (by simp[ol])
 ·cases h:v.L with
  | none=>rw[h] at h2;simp only[ol,Option.getD_none,List.length_nil] at h2;simp only[ol] at h1;omega
  | some L =>
    refine⟨L,rfl,fun e=>?_⟩
    rw[h,e] at h2;simp only[ol,Option.getD_some,List.length_nil] at h2;simp only[ol] at h1;omega
theorem c82 (o p:Option (List Request)) (e:ol p=ol o) (hn:((ol o).length:Int)<1000000):aD Tryz.prog 82 [ov aA o,ov aA p]=some (.v (.bool true)):=by
 rw[cL Tryz.func82 rfl aS5 (by cases o<;>cases p<;>rfl)]
 refine kN ?_
 simp only[Z8,seval,e,ZY];refine cB (fun m st=>∃k:Nat,(st.env 0=ov aA o∧st.env 1=ov aA p∧st.env 5=.v (.int .i64 k))∧k≤(ol o).length∧m=(ol o).length-k)
  (fun e st=>e=.exit 0) (ol o).length ?step ?start ?rest
 case step =>
  rintro m st ⟨k,hI,hk,hm⟩
  by_cases aZ:(k:Int)<(ol o).length
  ·have q0:(0:Int)≤k:=by omega
   have hw:IntKind.i64.wrap ((k:Int)+1)=((k+1:Nat):Int):=by rw[pM _ (by omega) (by omega)];omega
   apply oN ((ol o).length-(k+1))
   ·simp only[Z8,seval,e,hI,aZ,q0,ZY,decide_true,Bool.not_true,hw];rfl
   ·exact⟨k+1,by simp only[E8,seval,hI],by omega,rfl⟩
  ·apply oT (.exit 0)
   ·simp only[Z8,seval,e,hI,aZ];rfl
   ·exact rfl
 case start=>exact⟨0,by simp only[E8,seval]<;>exact⟨rfl,rfl,rfl⟩,by omega,by omega⟩
 case rest =>
  rintro e st rfl
  simp only[Z8,seval];exact⟨_,bX rfl (by simp only[E8,seval]<;>rfl) (by first|exact .v _|simp only[dW]),rfl⟩
theorem k82 (o p:Option (List Request)) (e:ol p=ol o) (hn:((ol o).length:Int)<1000000) (st:St) (d:Option Nat):aN (aD Tryz.prog) 82 [ov aA o,ov aA p] st d=some { dst:=d,val:=.v (.bool true)}:=bL (bI (dI o) (dI p)) (c82 o p e hn) (.v _)
theorem c28 {t:State} {v:SV} {Q R:Option (List Request)} (h:TD t v Q R) (Q' R':Option (List Request)) (eQ:ol Q'=ol Q) (eR:ol R'=ol R):aD Tryz.prog 28 [.agg (aE (Ra t t.store (ov aA Q') (ov aA R'))),.agg (aE t)]=some (.v (.bool true)):=by
 have nQ:((ol Q').length:Int)<1000000:=by rw[eQ];have:=h.nQ;omega
 have nR:((ol R').length:Int)<1000000:=by rw[eR];have:=h.nR;omega
 have kq:=k82 Q' Q eQ.symm nQ
 have kr:=k82 R' R eR.symm nR
 have kU:=h.fl
 have ft:Flat (.agg (aE (Ra t t.store (ov aA Q') (ov aA R')))):=(oF _).2 ⟨kU.1,kU.2.1,kU.2.2.1,kU.2.2.2.1,kU.2.2.2.2.1,kU.2.2.2.2.2.1,kU.2.2.2.2.2.2.1,dI Q',dI R'⟩
 rw[cL Tryz.func28 rfl aS6 rfl];refine kN ?_
 simp only[Z8,seval,Ra,h.Bx,h.ret,k42 h.sd,kq,kr,ZY,beI,beB,decide_true,qD,qF];exact⟨_,bX rfl (by simp only[E8,seval]<;>rfl) (by first|exact .v _|simp only[dW]),rfl⟩
theorem k28 {t:State} {v:SV} {Q R:Option (List Request)} (h:TD t v Q R) (Q' R':Option (List Request)) (eQ:ol Q'=ol Q) (eR:ol R'=ol R) (st:St) (d:Option Nat):aN (aD Tryz.prog) 28 [.agg (aE (Ra t t.store (ov aA Q') (ov aA R'))),.agg (aE t)] st d=some { dst:=d,val:=.v (.bool true)}:=by
 have kU:=h.fl
 have ft:Flat (.agg (aE (Ra t t.store (ov aA Q') (ov aA R')))):=(oF _).2 ⟨kU.1,kU.2.1,kU.2.2.1,kU.2.2.2.1,kU.2.2.2.2.1,kU.2.2.2.2.2.1,kU.2.2.2.2.2.2.1,dI Q',dI R'⟩
 exact bL (bI ft h.flat) (c28 h Q' R' eQ eR) (.v _)
structure WT (t:State) (v:SV):Prop where
 td:TD t v (some [⟨⟨1⟩,mkRoot 9,0,0⟩]) none
 ne:NEv v
 hB:v.B≠some []
 hL:v.L≠some []
 pos:0<v.ns.length
 op:qI v.ns (mkRoot 9)
 tag:t.bC=2
 now:t.store.now=1
end Go.Ab.Tryz
namespace Go.Ab.Tryz
open Classical Go.Proofs Go.Ab
end Go.Ab.Tryz
namespace Go.Ab.Tryz
open Go Go.Ab
def Dd:List Value:=[.int .u64 0]++([.int .i64 0]++tU)
end Go.Ab.Tryz
namespace Go.Ab.Tryz
open Classical Go.Proofs Go.Ab
open Classical Go.Proofs Go.Ab
end Go.Ab.Tryz
namespace Go.Ab.Tryz
open Classical Go.Proofs Go.Ab
theorem aS7 {t:State} {v:SV} {Q R:Option (List Request)} (h:TD t v Q R) (r:cK):aD Tryz.prog 139 [.agg (aE t),.agg (aX r)]=some (.v (.bool (decide (qI v.ns r)))):=by
 have hr:=eY v.ns r
 rw[cL Tryz.func139 rfl aNH rfl];refine kN ?_
 by_cases g1:0≤aP v.ns r
 ·by_cases g2:(nd v.ns (aP v.ns r)).status=0
  ·simp only[Z8,seval,h.sd.tree,k89 _ _ h.sd.nn,g1,hr.2,bt g2];exact⟨_,bX rfl (by simp only[E8,seval]<;>rfl) (by first|exact .v _|simp only[dW]),by simp[qI,g1,g2]⟩
  ·simp only[Z8,seval,h.sd.tree,k89 _ _ h.sd.nn,g1,hr.2,bf g2];exact⟨_,bX rfl (by simp only[E8,seval]<;>rfl) (by first|exact .v _|simp only[dW]),by simp[qI,g1,g2]⟩
 ·simp only[Z8,seval,h.sd.tree,k89 _ _ h.sd.nn,g1];exact⟨_,bX rfl (by simp only[E8,seval]<;>rfl) (by first|exact .v _|simp only[dW]),by simp[qI,g1]⟩
theorem aS8:aD Tryz.prog 81 [.v (.slice none 0 0),.v (.int .i64 0),.v (.int .i64 0)]=some (.v (.slice none 0 0)):=by
 rw[cL Tryz.func81 rfl aNC rfl];refine kN ?_
 simp only[Z8,seval,beI];exact⟨_,bX rfl (by simp only[E8,seval]<;>rfl) (by first|exact .v _|simp only[dW]),rfl⟩
def Yf (t:State) (v:SV) (Q R:Option (List Request)) (X:AV) (tag:Int):State:={ Ra t (ZX t.store v 8 0) X (rv 8 (nR v Q) R) with bC:=tag }
theorem aNI {t:State} {v:SV} {Q R:Option (List Request)} (h:TD t v Q R) (q:Option (List Request)) (tag:Int) (hq:((ol q).length:Int)<900000) (r:cK) (st:St) (d:Option Nat) {X:AV} (hh:∀j,j<nS v→st.heap 8 j=(Am v)[j]?) (hx:cM st X=some (ov aA q)) (hy:cM st (rv 8 (nR v Q) R)=some (ov aA R)) :
 aN (aD Tryz.prog) 139 [.agg (aE (Yf t v Q R X tag)),.agg (aX r)] st d=some { dst:=d,val:=.v (.bool (decide (qI v.ns r)))}:=by
 have T2:TD { t with eK:=ov aA q,bC:=tag } v q R:=⟨h.sd,rfl,h.ret,hq,h.nR⟩
 have he:fU st (.agg (aE (Yf t v Q R X tag)))=some (.agg (aE { t with eK:=ov aA q,bC:=tag })):=by
  have e:=VD (t:={ t with bC:=tag }) (v:=v) h.sd (d:=8) (c:=0) (q:=X) (r:=rv 8 (nR v Q) R) (fun j hj=>by rw[Nat.zero_add];exact hh j hj) hx hy
  have e2:Ra { t with bC:=tag } ({ t with bC:=tag }:State).store (ov aA q) (ov aA R)={ t with eK:=ov aA q,bC:=tag }:=by unfold Ra;rw[← h.ret]
  rw[e2] at e;exact e
 rw[nD,List.map_cons,List.map_cons,List.map_nil,he,dY (.agg _ (dL r)),bT,bT,iD];exact HE (aS7 T2 r)
noncomputable def X5 (ns:List Node) (p:Option (List Request) × Int) (r:Request):Option (List Request) × Int:=if qI ns r.block then (some (ol p.1++[⟨⟨p.2⟩,r.block,r.tries,0⟩]),IntKind.u64.wrap (p.2+1)) else p
noncomputable def j8 (ns:List Node) (p:Option (List Request) × Int) (l:List Request):Option (List Request) × Int:=l.foldl (X5 ns) p
theorem X6 (ns:List Node) (a:Option (List Request) × Int) (l:List Request) (k:Nat) (h:k<l.length):j8 ns a (l.take (k+1))=X5 ns (j8 ns a (l.take k)) (gx bK l k):=by
 unfold j8;rw[List.take_succ_eq_append_getElem h,List.foldl_append];simp[gx,h]
theorem aDt (ns:List Node) (p:Option (List Request) × Int) (l:List Request):(ol (j8 ns p l).1).length≤(ol p.1).length+l.length:=by
 induction l generalizing p with
 | nil=>exact Nat.le_refl _
 | cons r l ih =>
   have h1:=ih (X5 ns p r)
   have h2:(ol (X5 ns p r).1).length≤(ol p.1).length+1:=by
    unfold X5;split
    ·show (ol p.1++[_]).length≤_;rw[List.length_append,List.length_cons,List.length_nil];omega
    ·omega
   rw[List.length_cons];show (ol (j8 ns (X5 ns p r) l).1).length≤_;omega
theorem aS9 {t:State} {v:SV} {Q:Option (List Request)} {L:List Request} (h:TD t v Q (some L)) (gT:NEv v) (hB:v.B≠some []) (hL:v.L≠some []) (ht:0<v.ns.length) (hQ:Q≠some []) (hL0:L≠[]) (hn:((ol Q).length:Int)+L.length<800000) :
 ∃x,aD Tryz.prog 73 [.agg (aE t)]=some x∧∃(d:Nat) (q:Option (List Request)) (tag:Int),d≤L.length∧(∀j:Nat,j<d→(gx bK L j).due≤t.store.now)∧(d<L.length→¬(gx bK L d).due≤t.store.now)∧j8 v.ns (Q,t.bC) (L.take d)=(q,tag)∧x=.agg (aE { t with eK:=ov aA q,jM:=ov aA (some (L.drop d)),bC:=tag }):=by
 have aHA:=k80 h gT hB hL ht hQ (by simpa using hL0)
 have nL:(L.length:Int)<1000000:=by omega
 have lpos:0<L.length:=List.length_pos_iff.2 hL0
 have hz:cpT t v Q (some L) 8 0=Yf t v Q (some L) (rv 8 (nS v) Q) t.bC:=by unfold cpT Yf;rw[Nat.zero_add,Nat.zero_add];rfl
 have eR:∀X tg,(Yf t v Q (some L) X tg).jM=.own 8 (nR v Q):=fun X tg=>rfl
 have VF:∀X tg,(Yf t v Q (some L) X tg).store.now=t.store.now:=fun X tg=>rfl
 rw[cL Tryz.func73 rfl aNJ rfl];simp only[Z8,seval,aHA,OB,NW,hz,eR,VF];refine cB (fun m st=>∃k:Nat,(st.env 2=.ptr 2 0 0∧st.heap 2 0=some (.cells (aE iZ))∧st.env 3=.ptr 3 0 0∧st.heap 3 0=some (.cells (aE (Yf t v Q (some L) (rv 8 (nS v) Q) t.bC)))∧st.env 4=.v (.int .i64 k)∧st.heap 8 (nR v Q)=some (.row 63 35 L.length (aA L)))∧(∀j,j<nS v→st.heap 8 j=(Am v)[j]?)∧(∀l,Q=some l→st.heap 8 (nS v)=some (.row 63 35 l.length (aA l)))∧nR v Q<st.aO 8∧(∀j:Nat,j<k→(gx bK L j).due≤t.store.now)∧k≤L.length∧m=L.length-k)
  (fun e st=>e=.exit 0∧∃d:Nat,(st.env 2=.ptr 2 0 0∧st.heap 2 0=some (.cells (aE iZ))∧st.env 3=.ptr 3 0 0∧st.heap 3 0=some (.cells (aE (Yf t v Q (some L) (rv 8 (nS v) Q) t.bC)))∧st.env 4=.v (.int .i64 d)∧st.heap 8 (nR v Q)=some (.row 63 35 L.length (aA L)))∧(∀j,j<nS v→st.heap 8 j=(Am v)[j]?)∧(∀l,Q=some l→st.heap 8 (nS v)=some (.row 63 35 l.length (aA l)))∧nR v Q<st.aO 8∧(∀j:Nat,j<d→(gx bK L j).due≤t.store.now)∧d≤L.length∧(d<L.length→¬(gx bK L d).due≤t.store.now)) L.length ?step ?start ?rest
 case step =>
  rintro m st ⟨k,hI,hH,F1,hC,hj,hk,hm⟩
  by_cases aZ:(k:Int)<L.length
  case neg =>
   apply oT (.exit 0)
   ·simp only[Z8,seval,hI,eR,VF,aZ];rfl
   ·exact⟨rfl,k,by simp only[E8,seval,hI],by simpa only[E8,seval] using hH,by simpa only[E8,seval] using F1,by simpa only[E8,seval] using hC,hj,hk,fun h=>by omega⟩
  have q0:(0:Int)≤k:=by omega
  have hw:IntKind.i64.wrap ((k:Int)+1)=((k+1:Nat):Int):=by rw[pM _ (by omega) (by omega)];omega
  have ld:=zT (T:=23) (n:=L.length) (k:=1) (off:=34) q0 aZ MQ (by decide) (by decide)
  by_cases hd:(gx bK L (k:Int)).due≤t.store.now
  ·apply oN (L.length-(k+1))
   ·simp only[Z8,seval,hI,eR,VF,aZ,q0,ld,hd,hw];rfl
   ·exact⟨k+1,by simp only[E8,seval,hI],by simpa only[E8,seval] using hH,by simpa only[E8,seval] using F1,by simpa only[E8,seval] using hC,fun j h=>(Nat.lt_succ_iff_lt_or_eq.1 h).elim (hj j) fun e=>by subst e;exact hd,by omega,rfl⟩
  ·apply oT (.exit 0)
   ·simp only[Z8,seval,hI,eR,VF,aZ,q0,ld,hd];rfl
   ·exact⟨rfl,k,by simp only[E8,seval,hI],by simpa only[E8,seval] using hH,by simpa only[E8,seval] using F1,by simpa only[E8,seval] using hC,hj,hk,fun _=>hd⟩
 case start =>
  have lt:∀j,j<nS v→j<(OA v Q (some L)).length:=fun j hj=>by unfold OA;rw[List.length_append];unfold nS at hj;omega
  have eL:=aS3 v Q (some L) L rfl
  have lL:=(List.getElem?_eq_some_iff.1 eL).1
  refine⟨0,by simp only[E8,seval,NW,true_and,Nat.zero_le,Nat.sub_zero,lL,if_true,eL]<;>rfl,fun j hj=>?_,fun l hl=>?_,by simp only[E8,seval,NW];exact lL,fun j hj=>by omega,by omega,by omega⟩
  ·have lj:=lt j hj
   simp only[E8,seval,NW,true_and,Nat.zero_le,Nat.sub_zero,lj,if_true,aNE v Q (some L) j hj]
  ·have e:=aNF v Q (some L) l hl
   have lj:=(List.getElem?_eq_some_iff.1 e).1
   simp only[E8,seval,NW,true_and,Nat.zero_le,Nat.sub_zero,lj,if_true,e]
 case rest =>
  rintro e st ⟨rfl,d,hI,hH,F1,hC,hj,hd,hdn⟩
  have sl:∀(yV:St) (hi:Operand),yV.heap 8 (nR v Q)=some (.row 63 35 L.length (aA L))→yV.ev hi=.v (.int .i64 d)→cS Tryz.prog yV 54 (.own 8 (nR v Q)) none (some hi)=some (.vw 8 (nR v Q) 0 d):=fun yV hi hh he=>by
   have h1:¬((0:Int)=d∧¬((0:Int)=0∧0<L.length)):=by omega
   have h2:(0:Int)≤d∧(d:Int)≤L.length:=by omega
   simp only[cS,yE,hh,he,if_neg h1,h2,Int.le_refl,and_self,if_true];simp
   intro h3 h4;rw[h4] at lpos;simp at lpos
  have vw:∀yV:St,yV.heap 8 (nR v Q)=some (.row 63 35 L.length (aA L))→aQ yV (.vw 8 (nR v Q) 0 d)=some (d,aA (L.take d)):=fun yV hh=>by
   have hb:0+d * 35≤(aA L).length:=by rw[jU];omega
   simp only[aQ,hh,if_pos hb,List.drop_zero];rw[Ev]
  have hR1:∀l,Q=some l→nR v Q=nS v+1:=fun l hl=>by rw[hl];rfl
  simp only[Z8,seval,hI,eR,sl,vw];refine cB (fun m st=>∃(k:Nat) (X:AV) (p:Option (List Request)) (tg:Int),(st.env 2=.ptr 2 0 0∧st.heap 2 0=some (.cells (aE iZ))∧st.env 3=.ptr 3 0 0∧st.heap 3 0=some (.cells (aE (Yf t v Q (some L) X tg)))∧st.env 4=.v (.int .i64 d)∧st.env 31=.vw 8 (nR v Q) 0 d∧st.env 32=.v (.int .i64 d)∧st.env 33=.v (.int .i64 k)∧st.heap 8 (nR v Q)=some (.row 63 35 L.length (aA L)))∧(∀j,j<nS v→st.heap 8 j=(Am v)[j]?)∧nR v Q<st.aO 8 ∧
   ((p=none∧X=.v (.slice none 0 0))∨∃s g l,p=some l∧X=.own s g∧st.heap s g=some (.row 63 35 l.length (aA l))∧((s=52∧g<st.aO 52)∨(s=8∧g=nS v∧Q≠none)))∧j8 v.ns (Q,t.bC) (L.take k)=(p,tg)∧k≤d∧m=d-k)
   (fun e st=>e=.exit 2∧∃(X:AV) (p:Option (List Request)) (tg:Int),(st.env 2=.ptr 2 0 0∧st.heap 2 0=some (.cells (aE iZ))∧st.env 3=.ptr 3 0 0∧st.heap 3 0=some (.cells (aE (Yf t v Q (some L) X tg)))∧st.env 4=.v (.int .i64 d)∧st.heap 8 (nR v Q)=some (.row 63 35 L.length (aA L)))∧(∀j,j<nS v→st.heap 8 j=(Am v)[j]?)∧nR v Q<st.aO 8 ∧
    ((p=none∧X=.v (.slice none 0 0))∨∃s g l,p=some l∧X=.own s g∧st.heap s g=some (.row 63 35 l.length (aA l))∧((s=52∧g<st.aO 52)∨(s=8∧g=nS v∧Q≠none)))∧j8 v.ns (Q,t.bC) (L.take d)=(p,tg)) d ?Nv ?Es ?Hh
  case Nv =>
   rintro m st ⟨k,X,p,tg,hI,hH,hC,hX,hp,hk,hm⟩
   by_cases aZ:(k:Int)<d
   case neg =>
    have Dv:k=d:=by omega
    subst Dv;apply oT (.exit 2)
    ·simp only[Z8,seval,hI,aZ];rfl
    ·exact⟨rfl,X,p,tg,by simp only[E8,seval,hI],by simpa only[E8,seval] using hH,by simpa only[E8,seval] using hC,by simpa only[E8,seval] using hX,hp⟩
   have q0:(0:Int)≤k:=by omega
   have hltL:(k:Int)<L.length:=by omega
   have hw:IntKind.i64.wrap ((k:Int)+1)=((k+1:Nat):Int):=by rw[pM _ (by omega) (by omega)];omega
   have uW:=X6 v.ns (Q,t.bC) L k (by omega)
   rw[hp] at uW;obtain⟨r,hr⟩:∃r,gx bK L (k:Int)=r:=⟨_,rfl⟩
   rw[hr] at uW;have lv:∀yV:St,bD Tryz.prog yV 54 (.vw 8 (nR v Q) 0 d) (.v (.int .i64 k))=some (.ptr 8 (nR v Q) ((k:Int).toNat * 35)):=fun yV=>by
    have hc:(0:Int)≤k∧(k:Int)<d:=⟨q0,aZ⟩
    simp only[bD,aDu,yE,if_pos hc,Nat.zero_add]
   have Q4:uH Tryz.prog 63 (some (.row 63 35 L.length (aA L))) ((k:Int).toNat * 35)=fG Tryz.prog 63 (bU r) 0:=by rw[vW (k:=35) q0 hltL aDf (by decide) (by decide),hr]
   have lp:((ol p).length:Int)<900000:=by
    have h1:=aDt v.ns (Q,t.bC) (L.take k)
    rw[hp,List.length_take] at h1;have h2:(ol (p,tg).1).length=(ol p).length:=rfl
    have h3:(ol (Q,t.bC).1).length=(ol Q).length:=rfl
    omega
   have lp2:((ol p).length:Int)<1000000:=by omega
   obtain⟨K,hK⟩:∃K:St→Prop,K=fun yV=>(∀j,j<nS v→yV.heap 8 j=(Am v)[j]?)∧yV.heap 8 (nR v Q)=some (.row 63 35 L.length (aA L))∧cM yV X=some (ov aA p):=⟨_,rfl⟩
   have K0:K st:=by
    rw[hK];refine⟨hH,hI.2.2.2.2.2.2.2.2, ?_⟩
    rcases hX with ⟨rfl,rfl⟩|⟨s,g,l,rfl,rfl,h1,_⟩
    ·exact cH (.v _)
    ·exact Tryz.kE h1
   have Kp:∀yV d y,K (St.put yV d y)=K yV:=fun yV d y=>by rw[hK];cases d<;>rfl
   have xn:∀yV e,cM (St.new yV 6 e) X=cM yV X:=fun yV e=>by
    rcases hX with ⟨rfl,rfl⟩|⟨s,g,l,rfl,rfl,h1,h2⟩
    ·rw[cH (.v _),cH (.v _)]
    ·have s7:(s=6)=False:=eq_false (by omega)
     rw[bG,bG];simp only[Yg,s7,false_and,if_false]
   have xs:∀yV c e,cM (St.iH yV 6 c e) X=cM yV X:=fun yV c e=>by
    rcases hX with ⟨rfl,rfl⟩|⟨s,g,l,rfl,rfl,h1,h2⟩
    ·rw[cH (.v _),cH (.v _)]
    ·have s7:(s=6)=False:=eq_false (by omega)
     rw[bG,bG];simp only[Rb,s7,false_and,if_false]
   have n86:((8:Nat)=6)=False:=eq_false (by decide)
   have Kn:∀yV e,K (St.new yV 6 e)=K yV:=fun yV e=>by rw[hK];simp only[Yg,n86,false_and,if_false,xn]
   have Ks:∀yV c e,K (St.iH yV 6 c e)=K yV:=fun yV c e=>by rw[hK];simp only[Rb,n86,false_and,if_false,xs]
   have j9:∀(yV:St) (d:Option Nat),K yV→aN (aD Tryz.prog) 139 [.agg (aE (Yf t v Q (some L) X tg)),.agg (aX r.block)] yV d=some { dst:=d,val:=.v (.bool (decide (qI v.ns r.block)))}:=fun yV d hk=>by
    rw[hK] at hk;exact aNI h p tg lp r.block yV d hk.1 hk.2.2 (rI (L:=some L) (fun l hl=>by cases hl;exact hk.2.1) fun l _=>iX l)
   have eX:(Yf t v Q (some L) X tg).eK=X:=rfl
   have eN:(Yf t v Q (some L) X tg).bC=tg:=rfl
   have zR:bK.due=0:=rfl
   by_cases ho:qI v.ns r.block
   case neg =>
    rw[show X5 v.ns (p,tg) r=(p,tg) from if_neg ho] at uW;apply oN (d-(k+1))
    ·simp only[Z8,seval,hI,aZ,q0,lv,Q4,Kp,Kn,Ks,K0,j9,ho,decide_false,hw];rfl
    ·exact⟨k+1,X,p,tg,by simp only[E8,seval,hI],fun j hj=>by simp only[E8,seval];exact hH j hj,by simpa only[E8,seval] using hC,hX.imp id fun ⟨s,g,l,e1,e2,h1,h2⟩=>⟨s,g,l,e1,e2,by have s7:(s=6)=False:=eq_false (by omega);simp only[E8,seval,s7,false_and,if_false];exact h1,by simpa only[E8,seval] using h2⟩,uW,by omega,rfl⟩
   rw[show X5 v.ns (p,tg) r=(some (ol p++[⟨⟨tg⟩,r.block,r.tries,0⟩]),IntKind.u64.wrap (tg+1)) from if_pos ho] at uW
   rcases hX with ⟨rfl,rfl⟩|⟨s,g,l,rfl,rfl,h1,h2⟩
   ·apply oN (d-(k+1))
    ·simp only[Z8,seval,hI,aZ,q0,lv,Q4,Kp,Kn,Ks,K0,j9,ho,decide_true,eX,eN,zR,hw];rfl
    ·exact⟨k+1,.own 52 (st.aO 52),_,_,by simp only[E8,seval,hI]<;>rfl,fun j hj=>by simp only[E8,seval];exact hH j hj,by simpa only[E8,seval] using hC,.inr ⟨52,st.aO 52,_,rfl,rfl,by simp only[E8,seval]<;>rfl,.inl ⟨rfl,by simp only[E8,seval]<;>omega⟩⟩,uW,by omega,rfl⟩
   ·rw[Vo] at lp2;rcases h2 with ⟨rfl,hg⟩|⟨rfl,rfl,hQ1⟩
    ·have vA:(g=st.aO 52)=False:=eq_false (by omega)
     apply oN (d-(k+1))
     ·simp only[Z8,seval,hI,aZ,q0,lv,Q4,Kp,Kn,Ks,K0,j9,ho,decide_true,eX,eN,zR,hw,h1,oW _ _ _ _ lp2];rfl
     ·exact⟨k+1,.own 52 (st.aO 52),_,_,by simp only[E8,seval,hI]<;>rfl,fun j hj=>by simp only[E8,seval];exact hH j hj,by simpa only[E8,seval] using hC,.inr ⟨52,st.aO 52,_,rfl,rfl,by simp only[E8,seval]<;>rfl,.inl ⟨rfl,by simp only[E8,seval]<;>omega⟩⟩,uW,by omega,rfl⟩
    ·have hRS:(nR v Q=nS v)=False:=eq_false (by
      cases Q with
      | none=>exact absurd rfl hQ1
      | some l=>show ¬nS v+1=nS v;omega)
     apply oN (d-(k+1))
     ·simp only[Z8,seval,hI,aZ,q0,lv,Q4,Kp,Kn,Ks,K0,j9,ho,decide_true,eX,eN,zR,hw,h1,oW _ _ _ _ lp2];rfl
     ·exact⟨k+1,.own 52 (st.aO 52),_,_,by simp only[E8,seval,hI,hRS,and_false,if_false]<;>rfl,fun j hj=>by have N3:(j=nS v)=False:=eq_false (by omega);simp only[E8,seval,N3,and_false,if_false];exact hH j hj,by simpa only[E8,seval] using hC,.inr ⟨52,st.aO 52,_,rfl,rfl,by simp only[E8,seval]<;>rfl,.inl ⟨rfl,by simp only[E8,seval]<;>omega⟩⟩,uW,by omega,rfl⟩
  case Es =>
   refine⟨0,rv 8 (nS v) Q,Q,t.bC,by simp only[E8,seval,hI]<;>rfl,by simpa only[E8,seval] using hH,by simpa only[E8,seval] using hC, ?_,rfl,by omega,by omega⟩
   cases Q with
   | none=>exact .inl ⟨rfl,rfl⟩
   | some l=>exact .inr ⟨8,nS v,l,rfl,rfl,by simp only[E8,seval];exact F1 l rfl,.inr ⟨rfl,rfl,nofun⟩⟩
  case Hh =>
   rintro e st ⟨rfl,X,p,tg,hI,hH,hC,hX,hp⟩
   have hd81:aD Tryz.prog 81 [.uniq 63 35 L.length (aA L),.v (.int .i64 0),.v (.int .i64 d)]=some (.uniq 63 35 (L.drop d).length (aA (L.drop d))):=by
    have e:=c81 L 0 d (Nat.zero_le _) hd nL
    rw[List.take_zero,List.nil_append] at e;exact e
   have km:∀s g dd c,mvE (aD Tryz.prog) 81 [.v (.int .i64 0),.v (.int .i64 d)] s g dd c (some (.row 63 35 L.length (aA L)))=_:=fun s g dd c=>NC (iX L) (bI (.v _) (.v _)) hd81
   simp only[Z8,seval,hI,eR,km];have x1:∀yV:St,(∀s g,(s=52∨(s=8∧g≠nR v Q))→yV.heap s g=st.heap s g)→cM yV X=some (ov aA p):=fun yV hh=>by
    rcases hX with ⟨rfl,rfl⟩|⟨s,g,l,rfl,rfl,h1,h2⟩
    ·exact cH (.v _)
    ·refine Tryz.kE ?_
     rw[hh s g ?_]
     ·exact h1
     ·rcases h2 with ⟨rfl,_⟩|⟨rfl,rfl,hQ1⟩
      ·exact .inl rfl
      ·refine .inr ⟨rfl, ?_⟩
       cases Q with
       | none=>exact absurd rfl hQ1
       | some l=>show nS v≠nS v+1;omega
   have nle:nS v≤nR v Q:=by unfold nR;omega
   refine⟨_,eB rfl (by simp only[E8,seval,hI]<;>rfl) (cs:=aE { Yf t v Q (some L) X tg with jM:=.own 62 (st.aO 62)}) (by simp only[Z8,seval,hI]<;>rfl) (y:=.agg (aE { t with eK:=ov aA p,jM:=ov aA (some (L.drop d)),bC:=tg })) ?ex,d,p,tg,hd,hj,hdn,hp,rfl⟩
   exact VD (t:={ t with bC:=tg }) h.sd (d:=8) (c:=0) (q:=X) (r:=.own 62 (st.aO 62)) (fun j hj=>by
    rw[Nat.zero_add];have N3:(j=nR v Q)=False:=eq_false (by omega)
    simp only[E8,seval,N3,and_false,if_false];exact hH j hj) (x1 _ fun s g hsg=>by
    rcases hsg with rfl|⟨rfl,hg⟩
    ·simp only[E8,seval]
    ·have TJ:(g=nR v Q)=False:=eq_false hg
     simp only[E8,seval,TJ,and_false,if_false]) (Tryz.kE (by simp only[E8,seval]))
theorem aTc {t:State} {v:SV} {Q:Option (List Request)} (h:TD t v Q none) (gT:NEv v) (hB:v.B≠some []) (hL:v.L≠some []) (ht:0<v.ns.length) (hQ:Q≠some []):aD Tryz.prog 73 [.agg (aE t)]=some (.agg (aE t)):=by
 have aHA:=k80 h gT hB hL ht hQ nofun
 have hz:cpT t v Q none 8 0=Yf t v Q none (rv 8 (nS v) Q) t.bC:=by unfold cpT Yf;rw[Nat.zero_add,Nat.zero_add];rfl
 have eR:∀X tg,(Yf t v Q none X tg).jM=.v (.slice none 0 0):=fun X tg=>rfl
 have VF:∀X tg,(Yf t v Q none X tg).store.now=t.store.now:=fun X tg=>rfl
 have sl:∀(yV:St) (hi:Operand),yV.ev hi=.v (.int .i64 0)→cS Tryz.prog yV 54 (.v (.slice none 0 0)) none (some hi)=some (.v (.slice none 0 0)):=fun yV hi he=>by
  simp only[cS,yE,he,and_self,if_true]
 have km:∀(st:St) (d:Option Nat),jV (aD Tryz.prog) 81 [.v (.slice none 0 0),.v (.int .i64 0),.v (.int .i64 0)] st d=some { dst:=d,val:=.v (.slice none 0 0)}:=fun st d=>by
  unfold jV;have hf:∀x∈([.v (.slice none 0 0),.v (.int .i64 0),.v (.int .i64 0)]:List AV),Flat x:=oE (.v _) (.v _) (.v _)
  show (if _ then _ else _)=_
  rw[if_pos hf];exact kx aS8 hf (.v _) st d
 rw[cL Tryz.func73 rfl aNJ rfl];refine kN ?_
 simp only[Z8,seval,aHA,OB,NW,hz,eR,VF];refine cB (fun m st=>(st.env 2=.ptr 2 0 0∧st.heap 2 0=some (.cells (aE iZ))∧st.env 3=.ptr 3 0 0∧st.heap 3 0=some (.cells (aE (Yf t v Q none (rv 8 (nS v) Q) t.bC)))∧st.env 4=.v (.int .i64 0))∧(∀j,j<nS v→st.heap 8 j=(Am v)[j]?)∧(∀l,Q=some l→st.heap 8 (nS v)=some (.row 63 35 l.length (aA l))))
  (fun e st=>e=.exit 0∧(st.env 2=.ptr 2 0 0∧st.heap 2 0=some (.cells (aE iZ))∧st.env 3=.ptr 3 0 0∧st.heap 3 0=some (.cells (aE (Yf t v Q none (rv 8 (nS v) Q) t.bC)))∧st.env 4=.v (.int .i64 0))∧(∀j,j<nS v→st.heap 8 j=(Am v)[j]?)∧(∀l,Q=some l→st.heap 8 (nS v)=some (.row 63 35 l.length (aA l)))) 0 ?step ?start ?rest
 case step =>
  rintro m st ⟨hI,hH,F1⟩
  apply oT (.exit 0)
  ·simp only[Z8,seval,hI,eR,VF,Int.lt_irrefl];rfl
  ·exact⟨rfl,by simp only[E8,seval,hI],by simpa only[E8,seval] using hH,by simpa only[E8,seval] using F1⟩
 case start =>
  refine⟨by simp only[E8,seval,NW]<;>rfl,fun j hj=>?_,fun l hl=>?_⟩
  ·have lj:j<(OA v Q none).length:=by unfold OA;rw[List.length_append];unfold nS at hj;omega
   simp only[E8,seval,NW,true_and,Nat.zero_le,Nat.sub_zero,lj,if_true,aNE v Q none j hj]
  ·have e:=aNF v Q none l hl
   have lj:=(List.getElem?_eq_some_iff.1 e).1
   simp only[E8,seval,NW,true_and,Nat.zero_le,Nat.sub_zero,lj,if_true,e]
 case rest =>
  rintro e st ⟨rfl,hI,hH,F1⟩
  simp only[Z8,seval,hI,eR,sl];refine cB (fun m st=>(st.env 2=.ptr 2 0 0∧st.heap 2 0=some (.cells (aE iZ))∧st.env 3=.ptr 3 0 0∧st.heap 3 0=some (.cells (aE (Yf t v Q none (rv 8 (nS v) Q) t.bC)))∧st.env 4=.v (.int .i64 0)∧st.env 32=.v (.int .i64 0)∧st.env 33=.v (.int .i64 0))∧(∀j,j<nS v→st.heap 8 j=(Am v)[j]?)∧(∀l,Q=some l→st.heap 8 (nS v)=some (.row 63 35 l.length (aA l))))
   (fun e st=>e=.exit 2∧(st.env 2=.ptr 2 0 0∧st.heap 2 0=some (.cells (aE iZ))∧st.env 3=.ptr 3 0 0∧st.heap 3 0=some (.cells (aE (Yf t v Q none (rv 8 (nS v) Q) t.bC)))∧st.env 4=.v (.int .i64 0))∧(∀j,j<nS v→st.heap 8 j=(Am v)[j]?)∧(∀l,Q=some l→st.heap 8 (nS v)=some (.row 63 35 l.length (aA l)))) 0 ?Nv ?Es ?Hh
  case Nv =>
   rintro m st ⟨hI,hH,F1⟩
   apply oT (.exit 2)
   ·simp only[Z8,seval,hI,Int.lt_irrefl];rfl
   ·exact⟨rfl,by simp only[E8,seval,hI],by simpa only[E8,seval] using hH,by simpa only[E8,seval] using F1⟩
  case Es=>exact⟨by simp only[E8,seval,hI]<;>rfl,by simpa only[E8,seval] using hH,by simpa only[E8,seval] using F1⟩
  case Hh =>
   rintro e st ⟨rfl,hI,hH,F1⟩
   simp only[Z8,seval,hI,eR,km];refine⟨.agg (aE t),eB rfl (by simp only[E8,seval,hI]<;>rfl) (cs:=aE (Yf t v Q none (rv 8 (nS v) Q) t.bC)) (by simp only[Z8,seval,hI]<;>rfl) ?ex,rfl⟩
   have et:Ra t t.store (ov aA Q) (ov aA none)=t:=by unfold Ra;rw[← h.Bx,← h.ret]
   exact (VD (t:=t) (v:=v) h.sd (d:=8) (c:=0) (q:=rv 8 (nS v) Q) (r:=.v (.slice none 0 0)) (q':=ov aA Q) (r':=ov aA none) (fun j hj=>by rw[Nat.zero_add];simp only[E8,seval];exact hH j hj) (rI (fun l hl=>by simp only[E8,seval];exact F1 l hl) fun l _=>iX l) (cH (.v _))).trans (by rw[et])
end Go.Ab.Tryz
namespace Go.Ab.Tryz
open Classical Go.Proofs Go.Ab
open Classical Go.Proofs Go.Ab
open Classical Go.Proofs Go.Ab
end Go.Ab.Tryz
namespace Go.Ab.Tryz
open Classical Go.Proofs Go.Ab
def aNK (s g:Nat) (st st':St):Prop:=(∀x h,h<st.aO x→¬(x=s∧h=g)→st'.heap x h=st.heap x h)∧∀x,st.aO x≤st'.aO x
theorem aNK.refl (s g:Nat) (st:St):aNK s g st st:=⟨fun _ _ _ _=>rfl,fun _=>Nat.le_refl _⟩
structure KOk (K:St→Prop) (s g e sz:Nat) (cs:Nat→List AV→Prop):Prop where
 put:∀st d v,K (St.put st d v)=K st
 new:∀st x,K (St.new st 7 x)=K st
 set:∀st h x,K (St.iH st 7 h x)=K st
 back:∀a st,K (St.back a st)=K st
 row:∀st n C,cs n C→K st→K (St.iH st s g (some (.row e sz n C)))
theorem l4 {α:Type} {z:α} {l:List α} {j:Nat} (h:j<l.length):gx z l (j:Int)=l[j]:=by
 unfold gx;rw[Int.toNat_natCast,List.getD_eq_getElem?_getD,List.getElem?_eq_getElem h];rfl
theorem OC (ns:List Node) (now:Int) (K:List Request):∀(l:List Request) (a:Option (List Request) × Int),(∀r∈l,r.due≤now)→pK ns now (a,K) l=(j8 ns a l,K)
 | [],a,_=>rfl
 | r :: l,a,h=>by
   have h1:yD ns now (a,K) r=(X5 ns a r,K):=by
    unfold yD X5;rw[if_neg (by have:=h r (by simp);omega)]
    split<;>rfl
   show pK ns now (yD ns now (a,K) r) l=(j8 ns (X5 ns a r) l,K)
   rw[h1];exact OC ns now K l _ fun r' hr=>h r' (by simp[hr])
theorem FF (ns:List Node) (now:Int) (a:Option (List Request) × Int):∀(l K:List Request),(∀r∈l,now<r.due)→pK ns now (a,K) l=(a,K++l)
 | [],K,_=>by rw[List.append_nil];rfl
 | r :: l,K,h=>by
   have h1:yD ns now (a,K) r=(a,K++[r]):=if_pos (h r (by simp))
   show pK ns now (yD ns now (a,K) r) l=_
   rw[h1,FF ns now a l (K++[r]) fun r' hr=>h r' (by simp[hr]),List.append_assoc]
   rfl
theorem F2 (ns:List Node) (now:Int) (a:Option (List Request) × Int) (L:List Request) (d:Nat) (hd:d≤L.length) (hs:L.Pairwise fun a b=>¬sB b a) (h1:∀j:Nat,j<d→(gx bK L j).due≤now) (h2:d<L.length→¬(gx bK L d).due≤now):pK ns now (a,[]) L=(j8 ns a (L.take d),L.drop d):=by
 have e1:pK ns now (a,[]) (L.take d)=(j8 ns a (L.take d),[]):=OC ns now [] _ _ fun r hr=>by
  obtain⟨i,hi,rfl⟩:=List.getElem_of_mem hr
  rw[List.length_take] at hi;have:=h1 i (by omega)
  rw[l4 (by omega)] at this
  rw[List.getElem_take];exact this
 have e2:pK ns now (j8 ns a (L.take d),[]) (L.drop d)=(j8 ns a (L.take d),[]++L.drop d):=FF ns now _ _ _ fun r hr=>by
  obtain⟨i,hi,rfl⟩:=List.getElem_of_mem hr
  rw[List.length_drop] at hi;rw[List.getElem_drop];have hx:=h2 (by omega)
  rw[l4 (by omega)] at hx
  by_cases hi0:i=0
  ·subst hi0;simp only[Nat.add_zero];omega
  ·have hp:=List.pairwise_iff_getElem.1 hs d (d+i) (by omega) (by omega) (by omega)
   unfold sB at hp;omega
 have e3:pK ns now (a,[]) L=pK ns now (pK ns now (a,[]) (L.take d)) (L.drop d):=by
  unfold pK;rw[← List.foldl_append,List.take_append_drop]
 rw[e3,e1,e2,List.nil_append]
theorem c73 {t:State} {v:SV} {Q R:Option (List Request)} (h:TD t v Q R) (gT:NEv v) (hB:v.B≠some []) (hL:v.L≠some []) (ht:0<v.ns.length) (hQ:Q≠some []) (hR:R≠some []) (hn:((ol Q).length:Int)+(ol R).length<800000) (hs:(ol R).Pairwise fun a b=>¬sB b a) :
 ∃(R':Option (List Request)),aD Tryz.prog 73 [.agg (aE t)]=some (.agg (aE { t with eK:=ov aA (wZ t v.ns Q R).1.1,jM:=ov aA R',bC:=(wZ t v.ns Q R).1.2 }))∧ol R'=(wZ t v.ns Q R).2:=by
 cases R with
 | none =>
   refine⟨none, ?_,rfl⟩
   rw[aTc h gT hB hL ht hQ];show some (AV.agg (aE t))=some (.agg (aE { t with eK:=ov aA Q,jM:=ov aA none,bC:=t.bC }))
   rw[← h.Bx,← h.ret]
 | some L =>
   obtain⟨x,hx,d,q,tag,hd,h1,h2,h3,rfl⟩:=aS9 h gT hB hL ht hQ (by simpa using hR) hn
   have e:wZ t v.ns Q (some L)=((q,tag),L.drop d):=by
    unfold wZ;rw[Vo,F2 v.ns t.store.now (Q,t.bC) L d hd hs h1 h2,h3]
   rw[e];exact⟨some (L.drop d),hx,rfl⟩
end Go.Ab.Tryz
