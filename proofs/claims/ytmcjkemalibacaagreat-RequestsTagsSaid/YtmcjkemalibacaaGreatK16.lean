/-
  Part 16 of the proof: an evaluator of programs, its soundness, and what functions of this program compute.
-/
import Derived.Test.YtmcjkemalibacaaGreatK15
import Derived.Test.YtmcjkemalibacaaGreatK12
import Derived.Test.YtmcjkemalibacaaGreatK11
import Derived.Test.YtmcjkemalibacaaGreatK14
import Derived.Test.YtmcjkemalibacaaGreatK10
import Derived.Test.YtmcjkemalibacaaGreatK18
set_option linter.all false
set_option maxRecDepth 20000
set_option maxHeartbeats 40000000
namespace Go.Ab.Tryz
open Classical Go.Proofs Go.Ab
def Kz (l:List wG):List AV:=l.flatMap kF
theorem M6 (x:wG):wH 190 446 720 (some (1,kF x))=some (none,.row 190 446 [x].length (Kz [x])):=by simp[wH,maxLen,Kz]
theorem M7 (l:List wG) (x:wG) (s g:Nat) (h:(l.length:Int)<1000000):wS 190 446 720 (some (.row 190 446 l.length (Kz l))) s g (some (1,kF x))=some (some (s,g),.row 190 446 (l++[x]).length (Kz (l++[x]))):=by
 simp only[wS];rw[if_pos ⟨by simp,trivial,trivial,by omega,by simp only[maxLen];omega⟩]
 simp[Kz,List.flatMap_append]
theorem Qf (l:List wG) (h:∀y∈l,oS y):∀x∈Kz l,Flat x:=by
 intro x hx;obtain⟨y,hm,hy⟩:=List.mem_flatMap.1 hx
 have hf:=(h y hm).flat
 cases hf with
 | agg _ hc=>exact hc x hy
theorem aD5 (n:Nat) (l:List wG) (h:∀y∈l,oS y):iX (some (.row 190 446 n (Kz l)))=some (.sl n (Kz l)):=by
 unfold iX;simp only;rw[if_pos (Qf l h)]
theorem x75 (l:List Int) (hl:(l.length:Int)≤9223372036854775807):∃r,aD Tryz.prog 75 [.sl l.length (aJ l)]=some r∧∃(c:Config) (X:AV) (t:State) (v:SV) (Q R:Option (List Request)),r=.eB [.agg (bR c),X,.agg (aF t)]∧Flat (.agg (bR c))∧Flat X∧TI t v Q R 24000 6144:=by
 obtain⟨y1,hy1,c,b,rfl,hc⟩:=aKK l hl
 have fc:Flat (.agg (bR c)):=(xP c).2 (by rw[hc.jH];exact dX _)
 have aBx:∀(st:St) (d:Option Nat),eE (aD Tryz.prog) 101 _ st d=_:=fun st d=>Gs (cO (Po l)) hy1 fc
 obtain⟨y2,hy2,yL,last,y,rfl,fy⟩:=aKU hc
 have T0:=(TI.new hc).emit yL last
 have M8:=kx hy2 (cO fc) (.eB _ (mC T0.td.flat fy (.v _)))
 have k16:=Mk l hl 16 (by omega) (by omega)
 have k17:=Mk l hl 17 (by omega) (by omega)
 have n0:=(Mj l hl 16 (by omega) (by omega)).2.1
 obtain⟨n1,n2⟩:=eC (n:=25) n0 (by omega)
 obtain⟨N,hN⟩:∃N,(EK l 16).tmod 25=N:=⟨_,rfl⟩
 rw[hN] at n1 n2;rw[cG Tryz.func75 rfl aPF (by kernel_rfl) rfl]
 have body:∀(M:Int),0≤M→M≤24→∀st:St,(st.env 0=.sl l.length (aJ l)∧st.env 2=.ptr 2 0 0∧st.heap 2 0=some (.cells (bR mO))∧st.env 4=.ptr 4 0 0∧st.heap 4 0=some (.cells (aF jF))∧st.env 5=.ptr 5 0 0∧st.heap 5 0=some (.cells (bR c))∧st.env 6=.ptr 6 0 0∧st.heap 6 0=some (.cells (aF { o9 c b with yL:=yL,last:=last }))∧st.env 9=.v (.slice none 0 0)∧st.env 10=.v (.int .i64 M)∧st.env 11=.v (.int .i64 0))→∃e st',vT Tryz.prog true (jX (Tryz.f75.body.getD .skip)) st=some (e,st')∧(e=.exit 0∧∃(t:State) (v:SV) (Q R:Option (List Request)),(st'.env 2=.ptr 2 0 0∧st'.heap 2 0=some (.cells (bR mO))∧st'.env 4=.ptr 4 0 0∧st'.heap 4 0=some (.cells (aF jF))∧st'.env 5=.ptr 5 0 0∧st'.heap 5 0=some (.cells (bR c))∧st'.env 6=.ptr 6 0 0∧st'.heap 6 0=some (.cells (aF t)))∧(st'.env 9=.v (.slice none 0 0)∨∃(L:List wG) (g:Nat),st'.env 9=.own 48 g∧st'.heap 48 g=some (.row 190 446 L.length (Kz L))∧∀y∈L,oS y)∧TI t v Q R 24000 6144):=by
  intro M hM0 hM1 st hs;suffices key:∃r,cH (vT Tryz.prog true (jX (Tryz.f75.body.getD .skip)) st) some=some r∧(r.1=.exit 0∧∃(t:State) (v:SV) (Q R:Option (List Request)),(r.2.env 2=.ptr 2 0 0∧r.2.heap 2 0=some (.cells (bR mO))∧r.2.env 4=.ptr 4 0 0∧r.2.heap 4 0=some (.cells (aF jF))∧r.2.env 5=.ptr 5 0 0∧r.2.heap 5 0=some (.cells (bR c))∧r.2.env 6=.ptr 6 0 0∧r.2.heap 6 0=some (.cells (aF t)))∧(r.2.env 9=.v (.slice none 0 0)∨∃(L:List wG) (g:Nat),r.2.env 9=.own 48 g∧r.2.heap 48 g=some (.row 190 446 L.length (Kz L))∧∀y∈L,oS y)∧TI t v Q R 24000 6144) by
   obtain⟨r,h,hq⟩:=key
   cases hx:vT Tryz.prog true (jX (Tryz.f75.body.getD .skip)) st with
   | none=>rw[hx] at h;cases h
   | some y=>rw[hx] at h;simp only[cT,Option.some.injEq] at h;subst h;exact⟨y.1,y.2,rfl,hq⟩
  simp only[Tryz.f75,Option.getD_some,jX];refine nJ (fun m st=>∃(k:Nat) (t:State) (v:SV) (Q R:Option (List Request)),(st.env 0=.sl l.length (aJ l)∧st.env 2=.ptr 2 0 0∧st.heap 2 0=some (.cells (bR mO))∧st.env 4=.ptr 4 0 0∧st.heap 4 0=some (.cells (aF jF))∧st.env 5=.ptr 5 0 0∧st.heap 5 0=some (.cells (bR c))∧st.env 6=.ptr 6 0 0∧st.heap 6 0=some (.cells (aF t))∧st.env 10=.v (.int .i64 M)∧st.env 11=.v (.int .i64 k))∧(st.env 9=.v (.slice none 0 0)∨∃(L:List wG) (g:Nat),(st.env 9=.own 48 g∧st.heap 48 g=some (.row 190 446 L.length (Kz L)))∧g<st.aO 48∧(∀y∈L,oS y)∧L.length≤k)∧TI t v Q R (1000 * k) (256 * k)∧(k:Int)≤M∧m=(M-k).toNat)
   (fun e st=>e=.exit 0∧∃(t:State) (v:SV) (Q R:Option (List Request)),(st.env 2=.ptr 2 0 0∧st.heap 2 0=some (.cells (bR mO))∧st.env 4=.ptr 4 0 0∧st.heap 4 0=some (.cells (aF jF))∧st.env 5=.ptr 5 0 0∧st.heap 5 0=some (.cells (bR c))∧st.env 6=.ptr 6 0 0∧st.heap 6 0=some (.cells (aF t)))∧(st.env 9=.v (.slice none 0 0)∨∃(L:List wG) (g:Nat),st.env 9=.own 48 g∧st.heap 48 g=some (.row 190 446 L.length (Kz L))∧∀y∈L,oS y)∧TI t v Q R 24000 6144) M.toNat ?step ?start ?rest
  case start=>exact⟨0,_,_,_,_,⟨hs.1,hs.2.1,hs.2.2.1,hs.2.2.2.1,hs.2.2.2.2.1,hs.2.2.2.2.2.1,hs.2.2.2.2.2.2.1,hs.2.2.2.2.2.2.2.1,hs.2.2.2.2.2.2.2.2.1,hs.2.2.2.2.2.2.2.2.2.2.1,hs.2.2.2.2.2.2.2.2.2.2.2⟩,.inl hs.2.2.2.2.2.2.2.2.2.1,T0,by omega,by omega⟩
  case rest=>exact fun e st h=>⟨_,rfl,h⟩
  case step =>
   clear hs
   rintro m st ⟨k,t,v,Q,R,hI,hX,T,hk,hm⟩
   by_cases bA:(k:Int)<M
   case neg =>
    have hX':st.env 9=.v (.slice none 0 0)∨∃(L:List wG) (g:Nat),st.env 9=.own 48 g∧st.heap 48 g=some (.row 190 446 L.length (Kz L))∧∀y∈L,oS y:=hX.imp id fun ⟨L,g,h1,_,h3,_⟩=>⟨L,g,h1.1,h1.2,h3⟩
    apply QN (.exit 0)
    ·simp only[ZG,seval,Bool.false_and,Prod.mk.injEq,Wv,hI,bA];rfl
    ·exact⟨rfl,t,v,Q,R,by simp only[E8,seval,hI],by simpa only[E8,seval] using hX',T.mono (by omega) (by omega) (by omega) (by omega)⟩
   have hw:IntKind.i64.wrap ((k:Int)+1)=((k+1:Nat):Int):=by rw[pV _ (by omega) (by omega)];omega
   obtain⟨j,hj⟩:∃j:Int,j=18+(k:Int):=⟨_,rfl⟩
   have hwj:IntKind.i64.wrap (18+(k:Int))=j:=by rw[pV _ (by omega) (by omega),hj]
   obtain⟨n,hn⟩:∃n:Int,n=10+(k:Int):=⟨_,rfl⟩
   have hwn:IntKind.i64.wrap (10+(k:Int))=n:=by rw[pV _ (by omega) (by omega),hn]
   have kj:=Mk l hl j (by omega) (by omega)
   have j0:=(Mj l hl j (by omega) (by omega)).2.1
   have op:∀z:Int,0≤z→∃(y:wG) (t':State) (w:AV) (e:Int) (v':SV) (Q' R':Option (List Request)),(∀(st:St) (d:Option Nat),aP (aD Tryz.prog) 146 [.agg (aF t),.v (.int .i64 n),.v (.int .i64 z)] st d=some { dst:=d,val:=.agg (kF y)})∧(∀(st:St) (d:Option Nat),aP (aD Tryz.prog) 147 [.agg (aF t),.agg (kF y)] st d=some { dst:=d,val:=.eB [.agg (aF t'),w,.v (.int .i64 e)]})∧oS y∧TI t' v' Q' R' (1000 * ((k+1:Nat):Int)) (256 * ((k+1:Nat):Int)):=by
    intro z hz;obtain⟨y3,hy3,o,rfl,ho,hr⟩:=aPr T.td T.gi T.rg T.jH (fun r hr=>by obtain⟨h1,h2,_⟩:=T.tq.all r hr;have:=T.nt;exact⟨by omega,by omega⟩) n z hz
    have hp:o.kind=2→Pr o.block.root:=fun h2=>by
     rcases hr h2 with h|⟨a,ha,h⟩
     ·rw[h];exact aD4 (by omega) (by omega)
     ·rw[h];exact T.rg.rt a ha
    obtain⟨y4,hy4,t',w,e,v',Q',R',rfl,fw,T'⟩:=aPD T o ho hp (by omega) (by omega)
    exact⟨o,t',w,e,v',Q',R',kx hy3 (mC T.td.flat (.v _) (.v _)) ho.flat,kx hy4 (bI T.td.flat ho.flat) (.eB _ (mC T'.td.flat fw (.v _))),ho,T'.mono (by omega) (by omega) (by omega) (by omega)⟩
   by_cases k0:(k:Int)=0
   ·obtain⟨o,t',w,e,v',Q',R',M9,N0,ho,T'⟩:=op 0 (by omega)
    rcases hX with hX|⟨L,g,hX,hg,hL,hLk⟩
    ·apply Fl ((M-((k+1:Nat):Int)).toNat)
     ·simp only[ZG,seval,Bool.false_and,Prod.mk.injEq,Wv,hI,hX,bA,hwj,kj,bt k0,hwn,M9,M6,N0,dT,hw];rfl
     ·exact⟨k+1,t',v',Q',R',by simp only[E8,seval,hI],.inr ⟨[o],_,⟨by simp only[E8,seval]<;>rfl,by simp only[E8,seval]<;>rfl⟩,by simp only[E8,seval]<;>omega,(fun y hy=>by rw[List.mem_singleton] at hy;rw[hy];exact ho),by simp⟩,T',by omega,rfl⟩
    ·have nL:(L.length:Int)<1000000:=by omega
     have uD:(g=st.aO 48)=False:=eq_false (by omega)
     apply Fl ((M-((k+1:Nat):Int)).toNat)
     ·simp only[ZG,seval,Bool.false_and,Prod.mk.injEq,Wv,hI,hX,uD,bA,hwj,kj,bt k0,hwn,M9,M7 _ _ _ _ nL,N0,dT,hw];rfl
     ·exact⟨k+1,t',v',Q',R',by simp only[E8,seval,hI],.inr ⟨L++[o],_,⟨by simp only[E8,seval]<;>rfl,by simp only[E8,seval]<;>rfl⟩,by simp only[E8,seval]<;>omega,(fun y hy=>(List.mem_append.1 hy).elim (hL y) fun h=>by rw[List.mem_singleton] at h;rw[h];exact ho),by rw[List.length_append,List.length_cons,List.length_nil];omega⟩,T',by omega,rfl⟩
   ·obtain⟨o,t',w,e,v',Q',R',M9,N0,ho,T'⟩:=op (EK l j) j0
    rcases hX with hX|⟨L,g,hX,hg,hL,hLk⟩
    ·apply Fl ((M-((k+1:Nat):Int)).toNat)
     ·simp only[ZG,seval,Bool.false_and,Prod.mk.injEq,Wv,hI,hX,bA,hwj,kj,bf k0,hwn,M9,M6,N0,dT,hw];rfl
     ·exact⟨k+1,t',v',Q',R',by simp only[E8,seval,hI],.inr ⟨[o],_,⟨by simp only[E8,seval]<;>rfl,by simp only[E8,seval]<;>rfl⟩,by simp only[E8,seval]<;>omega,(fun y hy=>by rw[List.mem_singleton] at hy;rw[hy];exact ho),by simp⟩,T',by omega,rfl⟩
    ·have nL:(L.length:Int)<1000000:=by omega
     have uD:(g=st.aO 48)=False:=eq_false (by omega)
     apply Fl ((M-((k+1:Nat):Int)).toNat)
     ·simp only[ZG,seval,Bool.false_and,Prod.mk.injEq,Wv,hI,hX,uD,bA,hwj,kj,bf k0,hwn,M9,M7 _ _ _ _ nL,N0,dT,hw];rfl
     ·exact⟨k+1,t',v',Q',R',by simp only[E8,seval,hI],.inr ⟨L++[o],_,⟨by simp only[E8,seval]<;>rfl,by simp only[E8,seval]<;>rfl⟩,by simp only[E8,seval]<;>omega,(fun y hy=>(List.mem_append.1 hy).elim (hL y) fun h=>by rw[List.mem_singleton] at h;rw[h];exact ho),by rw[List.length_append,List.length_cons,List.length_nil];omega⟩,T',by omega,rfl⟩
 by_cases g1:0<(EK l 17).tmod 4
 ·simp only[ZG,seval,Bool.false_and,Prod.mk.injEq,Wv,aBx,M8,dT,k16,hN,k17,g1];refine Ip (a:=jX (Tryz.f75.body.getD .skip)) (fun e st'=>e=.exit 0∧∃(t:State) (v:SV) (Q R:Option (List Request)),(st'.env 2=.ptr 2 0 0∧st'.heap 2 0=some (.cells (bR mO))∧st'.env 4=.ptr 4 0 0∧st'.heap 4 0=some (.cells (aF jF))∧st'.env 5=.ptr 5 0 0∧st'.heap 5 0=some (.cells (bR c))∧st'.env 6=.ptr 6 0 0∧st'.heap 6 0=some (.cells (aF t)))∧(st'.env 9=.v (.slice none 0 0)∨∃(L:List wG) (g:Nat),st'.env 9=.own 48 g∧st'.heap 48 g=some (.row 190 446 L.length (Kz L))∧∀y∈L,oS y)∧TI t v Q R 24000 6144) (body 24 (by omega) (by omega) _ (by simp only[E8,seval]<;>rfl)) ?rest
  rintro e st ⟨rfl,t,v,Q,R,hI,hX|⟨L,g,hX,hh,hL⟩,T⟩
  ·have ft:=T.td.flat
   simp only[ZG,seval,Bool.false_and,Prod.mk.injEq,Wv,hI,hX];exact⟨_,gD rfl (by simp only[bS,Z8,seval,hI]<;>rfl) (by simp only[bS,Z8,seval,hX]<;>rfl) (by simp only[bS,Z8,seval,hI]<;>rfl) (dL fc) (dL (.v _)) (dL ft),c,_,t,v,Q,R,rfl,fc,.v _,T⟩
  ·have ft:=T.td.flat
   have ex:=aD5 L.length L hL
   simp only[ZG,seval,Bool.false_and,Prod.mk.injEq,Wv,hI,hX,hh];exact⟨_,gD rfl (by simp only[bS,Z8,seval,hI]<;>rfl) (by simp only[bS,Z8,seval,hX]<;>rfl) (by simp only[bS,Z8,seval,hI]<;>rfl) (dL fc) (by simp only[Z8,seval,hh,ex]<;>rfl) (dL ft),c,_,t,v,Q,R,rfl,fc,.sl _ _ (Qf L hL),T⟩
 ·simp only[ZG,seval,Bool.false_and,Prod.mk.injEq,Wv,aBx,M8,dT,k16,hN,k17,g1];refine Ip (a:=jX (Tryz.f75.body.getD .skip)) (fun e st'=>e=.exit 0∧∃(t:State) (v:SV) (Q R:Option (List Request)),(st'.env 2=.ptr 2 0 0∧st'.heap 2 0=some (.cells (bR mO))∧st'.env 4=.ptr 4 0 0∧st'.heap 4 0=some (.cells (aF jF))∧st'.env 5=.ptr 5 0 0∧st'.heap 5 0=some (.cells (bR c))∧st'.env 6=.ptr 6 0 0∧st'.heap 6 0=some (.cells (aF t)))∧(st'.env 9=.v (.slice none 0 0)∨∃(L:List wG) (g:Nat),st'.env 9=.own 48 g∧st'.heap 48 g=some (.row 190 446 L.length (Kz L))∧∀y∈L,oS y)∧TI t v Q R 24000 6144) (body N (by omega) (by omega) _ (by simp only[E8,seval]<;>rfl)) ?LA
  rintro e st ⟨rfl,t,v,Q,R,hI,hX|⟨L,g,hX,hh,hL⟩,T⟩
  ·have ft:=T.td.flat
   simp only[ZG,seval,Bool.false_and,Prod.mk.injEq,Wv,hI,hX];exact⟨_,gD rfl (by simp only[bS,Z8,seval,hI]<;>rfl) (by simp only[bS,Z8,seval,hX]<;>rfl) (by simp only[bS,Z8,seval,hI]<;>rfl) (dL fc) (dL (.v _)) (dL ft),c,_,t,v,Q,R,rfl,fc,.v _,T⟩
  ·have ft:=T.td.flat
   have ex:=aD5 L.length L hL
   simp only[ZG,seval,Bool.false_and,Prod.mk.injEq,Wv,hI,hX,hh];exact⟨_,gD rfl (by simp only[bS,Z8,seval,hI]<;>rfl) (by simp only[bS,Z8,seval,hX]<;>rfl) (by simp only[bS,Z8,seval,hI]<;>rfl) (dL fc) (by simp only[Z8,seval,hh,ex]<;>rfl) (dL ft),c,_,t,v,Q,R,rfl,fc,.sl _ _ (Qf L hL),T⟩
theorem x24 (l:List Int) (hl:(l.length:Int)≤9223372036854775807):∃(t:State) (v:SV) (Q R:Option (List Request)),aD Tryz.prog 24 [.sl l.length (aJ l)]=some (.agg (aF t))∧TI t v Q R 24000 6144:=by
 suffices h:∃r,aD Tryz.prog 24 [.sl l.length (aJ l)]=some r∧∃(t:State) (v:SV) (Q R:Option (List Request)),r=.agg (aF t)∧TI t v Q R 24000 6144 by
  obtain⟨r,h,t,v,Q,R,rfl,T⟩:=h
  exact⟨t,v,Q,R,h,T⟩
 obtain⟨y,hy,c,X,t,v,Q,R,rfl,fc,fX,T⟩:=x75 l hl
 have ft:=T.td.flat
 have k75:=kx hy (cO (Po l)) (.eB _ (mC fc fX ft))
 rw[cL Tryz.func24 rfl aPG rfl];simp only[Z8,seval,k75,dT];exact⟨_,eU rfl (by simp only[E8,seval,ft]<;>rfl) (by simp only[Z8,seval,ft]<;>rfl) (by simp only[dU,and_self,ft]),t,v,Q,R,rfl,T⟩
end Go.Ab.Tryz
namespace Go.Ab.Tryz
open Classical Go.Proofs Go.Ab
end Go.Ab.Tryz
namespace Go.Ab.Tryz
open Classical Go.Proofs Go.Ab
theorem DN (n:Node) (r:cC):aM [n] r=if n.block.root=r then 0 else -1:=by
 unfold aM;by_cases h:n.block.root=r<;>simp[List.findIdx?_cons,h]
theorem aD6 {a b:Int} (a0:0≤a) (a1:a<256) (b0:0≤b) (b1:b<256) (h:a≠b):mkRoot a≠mkRoot b:=fun e=>by
 have e1:IntKind.u8.wrap a=IntKind.u8.wrap b:=by rw[← sU,← sU,e]
 rw[Gv a0 a1,Gv b0 b1] at e1;exact h e1
theorem GI.now {s:aN} {v:SV} {q:Int} (h:GI s v q) (n:Int):GI { s with now:=n } v q :=
 ⟨⟨h.sd.jH,h.sd.dR,h.sd.gZ,h.sd.early,h.sd.bY,h.sd.tree,h.sd.tables,h.sd.eV,h.sd.tB,h.sd.nB,h.sd.nL,h.sd.nQ,h.sd.nE,h.sd.nO,h.sd.nT,h.sd.nn⟩,h.up,h.KC,h.pos,h.nl,h.KX,h.qG,h.KY,h.nB,h.nO,h.KZ,h.nE,h.QP,h.nT,h.RZ,h.nQ,h.I3,h.gP⟩
theorem RG.M4 {s:aN} {v:SV} (r:RG s v) (hs:1≤s.cFg.qG) {n:Int} (h0:s.now≤n) (h1:n≤1099511627776):RG { s with now:=n } v :=
 ⟨⟨by have:=r.now.1;show 0≤n;omega,h1⟩,r.j,r.f,fun a ha=>⟨(r.nd a ha).1,by have:=(r.nd a ha).2;show a.block.slot≤n;omega⟩,r.or,r.rt,⟨r.fe.1,Int.le_trans r.fe.2 (show Dg s s.now≤Dg s n from LS hs r.now.1 h0 (by omega))⟩,r.ds,r.tb,r.ne⟩
theorem N1 {c:Config} {b:List Int} (h:Nd c b):aM (Ta c b).ns c.dV=0∧aM (Ta c b).ns (mkRoot 9)=-1:=by
 have e:(Ta c b).ns=[⟨FH c,-1,1⟩]:=rfl
 rw[e,DN,DN,if_pos (show (FH c).root=c.dV from rfl),if_neg (show ¬(FH c).root=mkRoot 9 by show ¬c.dV=mkRoot 9;rw[h.gen];exact aD6 (by omega) (by omega) (by omega) (by omega) (by omega))]
 exact⟨rfl,rfl⟩
end Go.Ab.Tryz
namespace Go.Ab.Tryz
open Classical Go.Proofs Go.Ab
open Classical Go.Proofs Go.Ab
end Go.Ab.Tryz
namespace Go.Ab.Tryz
open Classical Go.Proofs Go.Ab
def uo {α:Type} (e sz:Nat) (c:List α→List AV):Option (List α)→AV
 | none=>.v (.slice none 0 0)
 | some l=>.uniq e sz l.length (c l)
def rl {α:Type} (e sz:Nat) (c:List α→List AV):Option (List α)→List mI
 | none=>[]
 | some l=>[.row e sz l.length (c l)]
def rv {α:Type} (d k:Nat):Option (List α)→AV
 | none=>.v (.slice none 0 0)
 | some _=>.own d k
def FZ (d:Nat) (es:List mI):Option (Nat × List mI):=if es=[] then none else some (d,es)
theorem N2 (st:St) (d:Nat):st.news d []=st:=by
 unfold St.news;cases st with
 | mk env heap aO =>
   simp only[List.length_nil,Nat.not_lt_zero,and_false,if_false,Nat.add_zero,St.mk.injEq,true_and];funext s
   split
   ·rename_i h;rw[h]
   ·rfl
theorem DO (x:Option Nat) (v:AV) (d:Nat) (es:List mI) (st:St):({ dst:=x,val:=v,new:=FZ d es }:qR).apply st=(st.news d es).put x v:=by
 unfold FZ;by_cases h:es=[]
 ·rw[if_pos h,h,N2];rfl
 ·rw[if_neg h];rfl
theorem N3 (st:St) (t d:Nat) (es:List mI):(st.news d es).env t=st.env t:=rfl
theorem N4 (st:St) (t d:Nat) (es:List mI):(st.news d es).aO t=if t=d then st.aO d+es.length else st.aO t:=rfl
theorem xU (st:St) (s g d:Nat) (es:List mI):(st.news d es).heap s g=if s=d∧st.aO d≤g∧g-st.aO d<es.length then es[g-st.aO d]? else st.heap s g:=rfl
theorem xD {α:Type} {call:Nat→List AV→Option AV} {g e sz d:Nat} {args:List AV} {c:List α→List AV} {L:Option (List α)} {st:St} (hf:∀x∈args,Flat x) (h:call g args=some (uo e sz c L)) :
 aP call g args st (some d)=some { dst:=some d,val:=rv d (st.aO d) L,new:=FZ d (rl e sz c L)}:=by
 cases L with
 | none =>
   simp only[aP,if_pos hf,h,cT,uo,iR,if_pos (Flat.v _),rv,rl,FZ];rfl
 | some l=>rw[iW hf h];simp only[rv,rl,FZ,List.cons_ne_nil,if_false]
theorem iM {α:Type} {st:St} {d k e sz:Nat} {c:List α→List AV} {L:Option (List α)} (hh:∀l,L=some l→st.heap d k=some (.row e sz l.length (c l))) (hf:∀l,L=some l→∀x∈c l,Flat x):jV st (rv d k L)=some (uo e sz c L):=by
 cases L with
 | none=>exact if_pos (Flat.v _)
 | some l =>
   have hn:¬Flat (.own d k):=by intro h;cases h
   simp only[rv,uo,jV,if_neg hn,hh l rfl,if_pos (hf l rfl)]
theorem MD {α:Type} {c:List α→List AV} {z:Nat} (hc:∀l,(c l).length=l.length * z) (hz:0<z) {l:List α} (h:l≠[]):c l≠[]:=by
 intro he;have h1:=hc l
 rw[he] at h1;have h2:0<l.length:=List.length_pos_iff.mpr h
 have:=Nat.mul_pos h2 hz
 simp only[List.length_nil] at h1;omega
theorem aPH (L:Option (List Int)) (h:L≠some []) (hn:((ol L).length:Int)<1000000):aD Tryz.prog 160 [ov bD L]=some (uo 23 1 bD L):=by
 cases L with
 | none =>
   unfold ov;rw[cL Tryz.func160 rfl aD7 rfl];simp only[Z8,seval];exact bX rfl (by simp only[E8,seval]<;>rfl) (.v _)
 | some l =>
   have hl:l≠[]:=fun h2=>h (by rw[h2])
   have gN:bD l≠[]:=MD (z:=1) (fun l=>by simp[Qg]) (by omega) hl
   have ha:=fun s g=>Ie (e:=23) (sz:=1) (by_:=8) (s:=s) (g:=g) (n:=l.length) (cs:=bD l) (by simp[Qg]) (by simp only[ol,Option.getD_some] at hn;omega) (by simp only[ol,Option.getD_some] at hn;unfold maxLen;omega)
   unfold ov;rw[cL Tryz.func160 rfl aD7 rfl];simp only[Z8,seval,gN,ha];exact rP rfl (by simp only[E8,seval];rfl) (by simp only[E8,seval]) (gV _)
theorem aKW (L:Option (List Int)) (h:L≠some []) (hn:((ol L).length:Int)<1000000) (st:St) (d:Nat):aP (aD Tryz.prog) 160 [ov bD L] st (some d)=some { dst:=some d,val:=rv d (st.aO d) L,new:=FZ d (rl 23 1 bD L)}:=xD (cO (dX L)) (aPH L h hn)
theorem aPI (L:Option (List lE)) (h:L≠some []) (hn:((ol L).length:Int)<1000000):aD Tryz.prog 190 [ov cV L]=some (uo 100 34 cV L):=by
 cases L with
 | none =>
   unfold ov;rw[cL Tryz.func190 rfl aD8 rfl];simp only[Z8,seval];exact bX rfl (by simp only[E8,seval]<;>rfl) (.v _)
 | some l =>
   have hl:l≠[]:=fun h2=>h (by rw[h2])
   have gN:cV l≠[]:=MD (z:=34) (fun l=>by simp) (by omega) hl
   have ha:=fun s g=>Ie (e:=100) (sz:=34) (by_:=48) (s:=s) (g:=g) (n:=l.length) (cs:=cV l) (by simp) (by simp only[ol,Option.getD_some] at hn;omega) (by simp only[ol,Option.getD_some] at hn;unfold maxLen;omega)
   unfold ov;rw[cL Tryz.func190 rfl aD8 rfl];simp only[Z8,seval,gN,ha];exact rP rfl (by simp only[E8,seval];rfl) (by simp only[E8,seval]) (mM _)
theorem aPJ (L:Option (List lE)) (h:L≠some []) (hn:((ol L).length:Int)<1000000) (st:St) (d:Nat):aP (aD Tryz.prog) 190 [ov cV L] st (some d)=some { dst:=some d,val:=rv d (st.aO d) L,new:=FZ d (rl 100 34 cV L)}:=xD (cO (vP L)) (aPI L h hn)
theorem aPK (L:Option (List Int)) (h:L≠some []) (hn:((ol L).length:Int)<1000000):aD Tryz.prog 191 [ov aJ L]=some (uo 3 1 aJ L):=by
 cases L with
 | none =>
   unfold ov;rw[cL Tryz.func191 rfl aD9 rfl];simp only[Z8,seval];exact bX rfl (by simp only[E8,seval]<;>rfl) (.v _)
 | some l =>
   have hl:l≠[]:=fun h2=>h (by rw[h2])
   have gN:aJ l≠[]:=MD (z:=1) (fun l=>by simp[Iq]) (by omega) hl
   have ha:=fun s g=>Ie (e:=3) (sz:=1) (by_:=8) (s:=s) (g:=g) (n:=l.length) (cs:=aJ l) (by simp[Iq]) (by simp only[ol,Option.getD_some] at hn;omega) (by simp only[ol,Option.getD_some] at hn;unfold maxLen;omega)
   unfold ov;rw[cL Tryz.func191 rfl aD9 rfl];simp only[Z8,seval,gN,ha];exact rP rfl (by simp only[E8,seval];rfl) (by simp only[E8,seval]) (fG _)
theorem aKX (L:Option (List Int)) (h:L≠some []) (hn:((ol L).length:Int)<1000000) (st:St) (d:Nat):aP (aD Tryz.prog) 191 [ov aJ L] st (some d)=some { dst:=some d,val:=rv d (st.aO d) L,new:=FZ d (rl 3 1 aJ L)}:=xD (cO (bQ L)) (aPK L h hn)
theorem aPL (L:Option (List Block)) (h:L≠some []) (hn:((ol L).length:Int)<1000000):aD Tryz.prog 164 [ov aH L]=some (uo 74 238 aH L):=by
 cases L with
 | none =>
   unfold ov;rw[cL Tryz.func164 rfl aEa rfl];simp only[Z8,seval];exact bX rfl (by simp only[E8,seval]<;>rfl) (.v _)
 | some l =>
   have hl:l≠[]:=fun h2=>h (by rw[h2])
   have gN:aH l≠[]:=MD (z:=238) (fun l=>by simp) (by omega) hl
   have ha:=fun s g=>Ie (e:=74) (sz:=238) (by_:=336) (s:=s) (g:=g) (n:=l.length) (cs:=aH l) (by simp) (by simp only[ol,Option.getD_some] at hn;omega) (by simp only[ol,Option.getD_some] at hn;unfold maxLen;omega)
   unfold ov;rw[cL Tryz.func164 rfl aEa rfl];simp only[Z8,seval,gN,ha];exact rP rfl (by simp only[E8,seval];rfl) (by simp only[E8,seval]) (oO _)
theorem aPM (L:Option (List Block)) (h:L≠some []) (hn:((ol L).length:Int)<1000000) (st:St) (d:Nat):aP (aD Tryz.prog) 164 [ov aH L] st (some d)=some { dst:=some d,val:=rv d (st.aO d) L,new:=FZ d (rl 74 238 aH L)}:=xD (cO (Du L)) (aPL L h hn)
theorem aPN (L:Option (List Request)) (h:L≠some []) (hn:((ol L).length:Int)<1000000):aD Tryz.prog 148 [ov aA L]=some (uo 63 35 aA L):=by
 cases L with
 | none =>
   unfold ov;rw[cL Tryz.func148 rfl aEb rfl];simp only[Z8,seval];exact bX rfl (by simp only[E8,seval]<;>rfl) (.v _)
 | some l =>
   have hl:l≠[]:=fun h2=>h (by rw[h2])
   have gN:aA l≠[]:=MD (z:=35) (fun l=>by simp) (by omega) hl
   have ha:=fun s g=>Ie (e:=63) (sz:=35) (by_:=56) (s:=s) (g:=g) (n:=l.length) (cs:=aA l) (by simp) (by simp only[ol,Option.getD_some] at hn;omega) (by simp only[ol,Option.getD_some] at hn;unfold maxLen;omega)
   unfold ov;rw[cL Tryz.func148 rfl aEb rfl];simp only[Z8,seval,gN,ha];exact rP rfl (by simp only[E8,seval];rfl) (by simp only[E8,seval]) (gM _)
theorem aKY (L:Option (List Request)) (h:L≠some []) (hn:((ol L).length:Int)<1000000) (st:St) (d:Nat):aP (aD Tryz.prog) 148 [ov aA L] st (some d)=some { dst:=some d,val:=rv d (st.aO d) L,new:=FZ d (rl 63 35 aA L)}:=xD (cO (fO L)) (aPN L h hn)
theorem pC {α:Type} {st:St} {d k e sz:Nat} {c:List α→List AV} {L:Option (List α)} (hh:∀l,L=some l→st.heap d k=some (.row e sz l.length (c l))) (hf:∀l,L=some l→∀x∈c l,Flat x):cI st (rv d k L)=some (ov c L):=by
 cases L with
 | none=>exact if_pos (Flat.v _)
 | some l =>
   have hn:¬Flat (.own d k):=by intro h;cases h
   simp only[rv,ov,cI,if_neg hn,hh l rfl,if_pos (hf l rfl)]
theorem N5 {α:Type} (d k:Nat) (L:Option (List α)):(rv d k L).cells=[rv d k L]:=by cases L<;>rfl
theorem aBy {α:Type} (d k:Nat) (L:Option (List α)):(rv d k L).jG=true:=by cases L<;>rfl
def NW:=aj (aj (aj @DO @N3) (aj @N4 @xU)) (aj @N5 @aBy)
theorem aPO (a:rQ) (V:Option (List Int)) (ha:a.eK=ov aJ V) (h:V≠some []) (hn:((ol V).length:Int)<1000000):aD Tryz.prog 163 [.agg (iF a)]=some (.agg (iF a)):=by
 rw[cL Tryz.func163 rfl aKZ rfl];simp only[Z8,seval,ha,aKX V h hn,NW];refine dY rfl (by simp only[E8,seval,NW]<;>rfl) (cs:=iF { a with eK:=rv 5 0 V }) (by simp only[Z8,seval,NW]<;>rfl) ?_
 rw[bO,lG,pC (e:=3) (sz:=1) (c:=aJ) (L:=V) ?h (fun l _=>fG l),cT,cT,← ha]
 case h =>
  intro l hl;subst hl;simp only[E8,seval,xU,rl,List.length_cons,Nat.lt_add_left_iff_pos,Nat.zero_lt_succ,if_true]
end Go.Ab.Tryz
namespace Go.Ab
open Classical
theorem Ni [Ext] {P:Program} {call:Nat→List AV→Option AV} {ops:Array Oper} {d:Option Nat} {T:Nat} {pos:String} {eG:Array Edge} {st:St} (t:Nat) (args:Array Operand) (rL:Array Nat) (g:Nat) (h:st.env t=.v (.func (.func g) #[] #[])):cB P call ops ⟨d,.call ⟨.value (.tmp t),args,rL⟩,T,pos,eG,none⟩ st=cH (aP call g (args.toList.map st.ev) st d) fun e=>some (e.apply st):=by
 rw[dO];simp only[dH,iA,mX,St.ev,h,EH,and_self,if_true,List.append_nil];cases aP call g (args.toList.map st.ev) st d<;>rfl
end Go.Ab
namespace Go.Ab.Tryz
open Classical Go.Proofs Go.Ab
theorem aPP (a:Table) (V:Option (List Int)) (ha:a.jH=ov bD V) (h:V≠some []) (hn:((ol V).length:Int)<1000000):aD Tryz.prog 194 [.agg (cN a)]=some (.agg (cN a)):=by
 rw[cL Tryz.func194 rfl aK0 rfl];simp only[Z8,seval,ha,aKW V h hn,NW];refine dY rfl (by simp only[E8,seval,NW]<;>rfl) (cs:=cN { a with jH:=rv 5 0 V }) (by simp only[Z8,seval,NW]<;>rfl) ?_
 rw[bO,sR,pC (e:=23) (sz:=1) (c:=bD) (L:=V) ?h (fun l _=>gV l),cT,cT,← ha]
 case h =>
  intro l hl;subst hl;simp only[E8,seval,xU,rl,List.length_cons,Nat.lt_add_left_iff_pos,Nat.zero_lt_succ,if_true]
theorem XO {α:Type} (z:α) (l:List α) (k:Nat) (h:k<l.length):l.take k++[gx z l (k:Int)]=l.take (k+1):=by
 rw[List.take_succ_eq_append_getElem h];congr 2
 simp[gx,h]
theorem aPQ (E:Option (List rQ)) (h:E≠some []) (hn:((ol E).length:Int)<1000000) (hE:∀a∈ol E,∃V,a.eK=ov aJ (some V)∧V≠[]) (hA:∀a∈ol E,Ev a) :
 aD Tryz.prog 162 [ov dC E,.v (.func (.func 163) #[] #[])]=some (uo 87 67 dC E):=by
 have lO:∀y∈ol E,Flat y.eK:=fun y m=>(hA y m).fl
 have kg:∀k:Nat,k<(ol E).length→∀(st:St) (d:Option Nat),aP (aD Tryz.prog) 163 [.agg (iF (gx Ku (ol E) (k:Int)))] st d=some { dst:=d,val:=.agg (iF (gx Ku (ol E) (k:Int)))}:=by
  intro k hk st d;have hm:gx Ku (ol E) (k:Int)∈ol E:=by
   have:gx Ku (ol E) (k:Int)=(ol E)[k]:=by simp[gx,hk]
   rw[this];exact List.getElem_mem hk
  obtain⟨V,hV,hV2⟩:=hE _ hm
  obtain⟨V',hV',Df⟩:=hA _ hm
  have hfa:Flat (.agg (iF (gx Ku (ol E) (k:Int)))):=(Ba _).2 (hA _ hm).fl
  have e0:((ol (some V)).length:Int)<1000000:=by
   have h0:ov aJ (some V)=ov aJ V':=by rw[← hV,← hV']
   cases V' with
   | none=>cases h0
   | some W =>
     simp only[ov,AV.sl.injEq] at h0;simp only[ol,Option.getD_some] at Df ⊢
     omega
  exact kx (aPO _ (some V) hV (by simpa using hV2) e0) (cO hfa) hfa st d
 have hu:([ov dC E,.v (.func (.func 163) #[] #[])]:List AV).any tE=false:=by cases E<;>rfl
 rw[cL Tryz.func162 rfl aK2 hu];simp only[Z8,seval];refine lB (fun m st=>∃k:Nat,(st.env 8=ov dC E∧st.env 9=.v (.int .i64 (ol E).length)∧st.env 10=.v (.int .i64 k)∧st.env 1=.v (.func (.func 163) #[] #[]))∧((k=0∧st.env 5=.v (.slice none 0 0))∨(0<k∧∃j,st.env 5=.own 19 j∧st.heap 19 j=some (.row 87 67 ((ol E).take k).length (dC ((ol E).take k)))))∧k≤(ol E).length∧m=(ol E).length-k)
  (fun e st=>e=.exit 0∧((ol E=[]∧st.env 5=.v (.slice none 0 0))∨(ol E≠[]∧∃j,st.env 5=.own 19 j∧st.heap 19 j=some (.row 87 67 (ol E).length (dC (ol E)))))) (ol E).length ?step ?start ?rest
 case step =>
  rintro m st ⟨k,hI,hR,hk,hm⟩
  by_cases bA:(k:Int)<(ol E).length
  ·have q0:(0:Int)≤k:=by omega
   have hw:IntKind.i64.wrap ((k:Int)+1)=((k+1:Nat):Int):=by rw[pV _ (by omega) (by omega)];omega
   have ht:=XO Ku (ol E) k (by omega)
   have kk:=kg k (by omega)
   rcases hR with ⟨vM,h5⟩|⟨vM,j,h5,h6⟩
   ·have ht':[gx Ku (ol E) (k:Int)]=(ol E).take (k+1):=by rw[← ht,show (ol E).take k=[] by rw[vM,List.take_zero],List.nil_append]
    apply oN ((ol E).length-(k+1))
    ·simp only[Z8,seval,hI,h5,bA,q0,kk,Ni 15 _ _ 163,FR,hw];rfl
    ·exact⟨k+1,⟨by simp only[E8,seval,hI],by simp only[E8,seval,hI],by simp only[E8,seval],by simp only[E8,seval,hI]⟩,.inr ⟨by omega,_,by simp only[E8,seval]<;>rfl,by rw[← ht'];simp only[E8,seval]<;>rfl⟩,by omega,rfl⟩
   ·have ao:=fun s g=>Uh ((ol E).take k) (gx Ku (ol E) (k:Int)) s g (by rw[List.length_take];omega)
    apply oN ((ol E).length-(k+1))
    ·simp only[Z8,seval,hI,h5,h6,bA,q0,kk,Ni 15 _ _ 163,ao,hw];rfl
    ·exact⟨k+1,⟨by simp only[E8,seval,hI],by simp only[E8,seval,hI],by simp only[E8,seval],by simp only[E8,seval,hI]⟩,.inr ⟨by omega,_,by simp only[E8,seval]<;>rfl,by rw[← ht];simp only[E8,seval]<;>rfl⟩,by omega,rfl⟩
  ·have De:k=(ol E).length:=by omega
   have hF:(ol E=[]∧st.env 5=.v (.slice none 0 0))∨(ol E≠[]∧∃j,st.env 5=.own 19 j∧st.heap 19 j=some (.row 87 67 (ol E).length (dC (ol E)))):=by
    rcases hR with ⟨vM,h5⟩|⟨vM,j,h5,h6⟩
    ·exact .inl ⟨List.eq_nil_of_length_eq_zero (by omega),h5⟩
    ·exact .inr ⟨by intro h0;rw[h0] at De;simp at De;omega,j,h5,by rw[h6,De,List.take_length]⟩
   apply oT (.exit 0)
   ·simp only[Z8,seval,hI,bA];rfl
   ·exact⟨rfl,by simp only[E8,seval];exact hF⟩
 case start=>exact⟨0,by simp only[E8,seval]<;>exact⟨rfl,rfl,rfl,rfl⟩,.inl ⟨rfl,by simp only[E8,seval]<;>rfl⟩,by omega,by omega⟩
 case rest =>
  rintro e st ⟨rfl,hR⟩
  rcases hR with ⟨h0,h5⟩|⟨h0,j,h5,h6⟩
  ·simp only[Z8,seval,h5];cases E with
   | none=>exact bX rfl (by simp only[E8,seval]<;>rfl) (.v _)
   | some l=>exact absurd (show (some l:Option (List rQ))=some [] by rw[show l=[] from h0]) h
  ·simp only[Z8,seval,h5];cases E with
   | none=>exact absurd rfl h0
   | some l=>exact rP rfl (by simp only[E8,seval];rfl) (by simp only[E8,seval];exact h6) (sI _ lO)
theorem aPU (E:Option (List rQ)) (h:E≠some []) (hn:((ol E).length:Int)<1000000) (hE:∀a∈ol E,∃V,a.eK=ov aJ (some V)∧V≠[]) (hA:∀a∈ol E,Ev a) (st:St) (d:Nat) :
 aP (aD Tryz.prog) 162 [ov dC E,.v (.func (.func 163) #[] #[])] st (some d)=some { dst:=some d,val:=rv d (st.aO d) E,new:=FZ d (rl 87 67 dC E)} :=
 xD (fun x m=>by
  rcases List.mem_cons.1 m with rfl|m
  ·exact Vt E fun y m=>(hA y m).fl
  ·rw[List.mem_singleton.1 m];exact .v _) (aPQ E h hn hE hA)
theorem aPV (E:Option (List Table)) (h:E≠some []) (hn:((ol E).length:Int)<1000000) (hE:∀a∈ol E,∃V,a.jH=ov bD (some V)∧V≠[]) (hA:∀a∈ol E,uB a) :
 aD Tryz.prog 193 [ov aR E,.v (.func (.func 194) #[] #[])]=some (uo 118 34 aR E):=by
 have lO:∀y∈ol E,Flat y.jH:=fun y m=>(hA y m).fl
 have kg:∀k:Nat,k<(ol E).length→∀(st:St) (d:Option Nat),aP (aD Tryz.prog) 194 [.agg (cN (gx iS (ol E) (k:Int)))] st d=some { dst:=d,val:=.agg (cN (gx iS (ol E) (k:Int)))}:=by
  intro k hk st d;have hm:gx iS (ol E) (k:Int)∈ol E:=by
   have:gx iS (ol E) (k:Int)=(ol E)[k]:=by simp[gx,hk]
   rw[this];exact List.getElem_mem hk
  obtain⟨V,hV,hV2⟩:=hE _ hm
  obtain⟨V',hV',Df⟩:=hA _ hm
  have hfa:Flat (.agg (cN (gx iS (ol E) (k:Int)))):=(kL _).2 (hA _ hm).fl
  have e0:((ol (some V)).length:Int)<1000000:=by
   have h0:ov bD (some V)=ov bD V':=by rw[← hV,← hV']
   cases V' with
   | none=>cases h0
   | some W =>
     simp only[ov,AV.sl.injEq] at h0;simp only[ol,Option.getD_some] at Df ⊢
     omega
  exact kx (aPP _ (some V) hV (by simpa using hV2) e0) (cO hfa) hfa st d
 have hu:([ov aR E,.v (.func (.func 194) #[] #[])]:List AV).any tE=false:=by cases E<;>rfl
 rw[cL Tryz.func193 rfl aK3 hu];simp only[Z8,seval];refine lB (fun m st=>∃k:Nat,(st.env 8=ov aR E∧st.env 9=.v (.int .i64 (ol E).length)∧st.env 10=.v (.int .i64 k)∧st.env 1=.v (.func (.func 194) #[] #[]))∧((k=0∧st.env 5=.v (.slice none 0 0))∨(0<k∧∃j,st.env 5=.own 19 j∧st.heap 19 j=some (.row 118 34 ((ol E).take k).length (aR ((ol E).take k)))))∧k≤(ol E).length∧m=(ol E).length-k)
  (fun e st=>e=.exit 0∧((ol E=[]∧st.env 5=.v (.slice none 0 0))∨(ol E≠[]∧∃j,st.env 5=.own 19 j∧st.heap 19 j=some (.row 118 34 (ol E).length (aR (ol E)))))) (ol E).length ?step ?start ?rest
 case step =>
  rintro m st ⟨k,hI,hR,hk,hm⟩
  by_cases bA:(k:Int)<(ol E).length
  ·have q0:(0:Int)≤k:=by omega
   have hw:IntKind.i64.wrap ((k:Int)+1)=((k+1:Nat):Int):=by rw[pV _ (by omega) (by omega)];omega
   have ht:=XO iS (ol E) k (by omega)
   have kk:=kg k (by omega)
   rcases hR with ⟨vM,h5⟩|⟨vM,j,h5,h6⟩
   ·have ht':[gx iS (ol E) (k:Int)]=(ol E).take (k+1):=by rw[← ht,show (ol E).take k=[] by rw[vM,List.take_zero],List.nil_append]
    apply oN ((ol E).length-(k+1))
    ·simp only[Z8,seval,hI,h5,bA,q0,kk,Ni 15 _ _ 194,DP,hw];rfl
    ·exact⟨k+1,⟨by simp only[E8,seval,hI],by simp only[E8,seval,hI],by simp only[E8,seval],by simp only[E8,seval,hI]⟩,.inr ⟨by omega,_,by simp only[E8,seval]<;>rfl,by rw[← ht'];simp only[E8,seval]<;>rfl⟩,by omega,rfl⟩
   ·have ao:=fun s g=>Px ((ol E).take k) (gx iS (ol E) (k:Int)) s g (by rw[List.length_take];omega)
    apply oN ((ol E).length-(k+1))
    ·simp only[Z8,seval,hI,h5,h6,bA,q0,kk,Ni 15 _ _ 194,ao,hw];rfl
    ·exact⟨k+1,⟨by simp only[E8,seval,hI],by simp only[E8,seval,hI],by simp only[E8,seval],by simp only[E8,seval,hI]⟩,.inr ⟨by omega,_,by simp only[E8,seval]<;>rfl,by rw[← ht];simp only[E8,seval]<;>rfl⟩,by omega,rfl⟩
  ·have De:k=(ol E).length:=by omega
   have hF:(ol E=[]∧st.env 5=.v (.slice none 0 0))∨(ol E≠[]∧∃j,st.env 5=.own 19 j∧st.heap 19 j=some (.row 118 34 (ol E).length (aR (ol E)))):=by
    rcases hR with ⟨vM,h5⟩|⟨vM,j,h5,h6⟩
    ·exact .inl ⟨List.eq_nil_of_length_eq_zero (by omega),h5⟩
    ·exact .inr ⟨by intro h0;rw[h0] at De;simp at De;omega,j,h5,by rw[h6,De,List.take_length]⟩
   apply oT (.exit 0)
   ·simp only[Z8,seval,hI,bA];rfl
   ·exact⟨rfl,by simp only[E8,seval];exact hF⟩
 case start=>exact⟨0,by simp only[E8,seval]<;>exact⟨rfl,rfl,rfl,rfl⟩,.inl ⟨rfl,by simp only[E8,seval]<;>rfl⟩,by omega,by omega⟩
 case rest =>
  rintro e st ⟨rfl,hR⟩
  rcases hR with ⟨h0,h5⟩|⟨h0,j,h5,h6⟩
  ·simp only[Z8,seval,h5];cases E with
   | none=>exact bX rfl (by simp only[E8,seval]<;>rfl) (.v _)
   | some l=>exact absurd (show (some l:Option (List Table))=some [] by rw[show l=[] from h0]) h
  ·simp only[Z8,seval,h5];cases E with
   | none=>exact absurd rfl h0
   | some l=>exact rP rfl (by simp only[E8,seval];rfl) (by simp only[E8,seval];exact h6) (lF _ lO)
theorem aPW (E:Option (List Table)) (h:E≠some []) (hn:((ol E).length:Int)<1000000) (hE:∀a∈ol E,∃V,a.jH=ov bD (some V)∧V≠[]) (hA:∀a∈ol E,uB a) (st:St) (d:Nat) :
 aP (aD Tryz.prog) 193 [ov aR E,.v (.func (.func 194) #[] #[])] st (some d)=some { dst:=some d,val:=rv d (st.aO d) E,new:=FZ d (rl 118 34 aR E)} :=
 xD (fun x m=>by
  rcases List.mem_cons.1 m with rfl|m
  ·exact oQ E fun y m=>(hA y m).fl
  ·rw[List.mem_singleton.1 m];exact .v _) (aPV E h hn hE hA)
theorem Ww (f:Nat→AV→AV × List mI) (c:Nat) (xs ys:List AV):pJ f c (xs++ys)=((pJ f c xs).1++(pJ f (c+(pJ f c xs).2.length) ys).1,(pJ f c xs).2++(pJ f (c+(pJ f c xs).2.length) ys).2):=by
 induction xs generalizing c with
 | nil=>simp[pJ]
 | cons x xs ih=>simp only[List.cons_append,pJ,ih,List.length_append,Nat.add_assoc,List.append_assoc]
theorem Ir (d c:Nat) {x:AV} (h:Flat x):wY d c x=(x,[]):=by cases h<;>rfl
theorem qZ (d c:Nat) {xs:List AV} (h:∀x∈xs,Flat x):pJ (wY d) c xs=(xs,[]):=by
 induction xs generalizing c with
 | nil=>rfl
 | cons x xs ih=>simp only[pJ,Ir d c (h x (by simp)),List.length_nil,Nat.add_zero,ih c fun y m=>h y (by simp[m]),List.nil_append]
theorem Uk {α:Type} (d c e sz:Nat) (cs:List α→List AV) (L:Option (List α)):pJ (wY d) c [uo e sz cs L]=([rv d c L],rl e sz cs L):=by cases L<;>rfl
theorem GA {call:Nat→List AV→Option AV} {g d:Nat} {args cs:List AV} {st:St} (hf:∀x∈args,Flat x) (h:call g args=some (.agg cs)) (hn:Flat (.agg cs)∨(pJ (wY d) (st.aO d) cs).2≠[]) :
 aP call g args st (some d)=some { dst:=some d,val:=.agg (pJ (wY d) (st.aO d) cs).1,new:=FZ d (pJ (wY d) (st.aO d) cs).2 }:=by
 unfold aP;rw[if_pos hf,h,cT];unfold iR;by_cases hF:Flat (.agg cs)
 ·have hc:∀x∈cs,Flat x:=by cases hF with|agg _ h=>exact h
  rw[if_pos hF,qZ d _ hc];rfl
 ·rw[if_neg hF];have h2:=hn.resolve_left hF
  simp only[FZ,if_neg h2];rfl
noncomputable def Tb (st:St) (cs:List AV):Option (List AV):=cF (cs.map (jV st))
theorem Wx (st:St) (a b:List AV):Tb st (a++b)=cH (Tb st a) fun x=>cH (Tb st b) fun y=>some (x++y):=by
 unfold Tb;induction a with
 | nil=>simp[cF,cH];cases cF (b.map (jV st))<;>rfl
 | cons c a ih =>
   simp only[List.cons_append,List.map_cons];cases jV st c with
   | none=>rfl
   | some c' =>
     simp only[cF,ih];cases cF (a.map (jV st))<;>simp[cH]<;>cases cF (b.map (jV st))<;>rfl
theorem sV {st:St} {cs:List AV} (h:∀c∈cs,Flat c):Tb st cs=some cs:=by
 unfold Tb;induction cs with
 | nil=>rfl
 | cons c cs ih =>
   have h1:jV st c=some c:=if_pos (h c (by simp))
   simp only[List.map_cons,h1,cF,ih fun x hx=>h x (by simp[hx]),Option.map_some]
theorem qN {st:St} {x y:AV} (h:jV st x=some y):Tb st [x]=some [y]:=by simp only[Tb,List.map_cons,List.map_nil,h,cF,Option.map_some]
theorem Qh {st:St} {cs ys:List AV} (h:Tb st cs=some ys):Bu st (.agg cs)=some (.agg ys):=by
 show (cF (cs.map (jV st))).map AV.agg=_
 rw[show cF (cs.map (jV st))=some ys from h];rfl
theorem ME {x:AV} (h:Flat x):gA x=[]:=by cases h<;>rfl
theorem mP {cs:List AV} (h:∀c∈cs,Flat c):cs.flatMap gA=[]:=by
 induction cs with
 | nil=>rfl
 | cons c cs ih=>rw[List.flatMap_cons,ME (h c (by simp)),ih fun x hx=>h x (by simp[hx]),List.nil_append]
theorem DQ {α:Type} (d k:Nat) (L:Option (List α)):gA (rv d k L)=if L.isSome then [(d,k)] else []:=by cases L<;>rfl
theorem N6 (st:St) (g:Nat):st.ev (.func g)=.v (.func (.func g) #[] #[]):=rfl
theorem aPX (T:Option (List Table)) (h:T≠some []) (hn:((ol T).length:Int)<1000000) (hE:∀a∈ol T,∃V,a.jH=ov bD (some V)∧V≠[]) (hA:∀a∈ol T,uB a):aD Tryz.prog 166 [ov aR T]=some (uo 118 34 aR T):=by
 have lO:∀y∈ol T,Flat y.jH:=fun y m=>(hA y m).fl
 rw[cL Tryz.func166 rfl aK4 (by cases T<;>rfl)]
 simp only[Z8,seval,N6,aPW T h hn hE hA,NW];cases T with
 | none=>exact bX rfl (by simp only[E8,seval]<;>rfl) (.v _)
 | some l=>exact rP rfl (by simp only[E8,seval]<;>rfl) (by simp only[E8,seval,xU,rl,List.length_cons,Nat.lt_add_left_iff_pos,Nat.zero_lt_succ,if_true]<;>rfl) (lF _ lO)
theorem aPY (T:Option (List Table)) (h:T≠some []) (hn:((ol T).length:Int)<1000000) (hE:∀a∈ol T,∃V,a.jH=ov bD (some V)∧V≠[]) (hA:∀a∈ol T,uB a) (st:St) (d:Nat) :
 aP (aD Tryz.prog) 166 [ov aR T] st (some d)=some { dst:=some d,val:=rv d (st.aO d) T,new:=FZ d (rl 118 34 aR T)}:=xD (cO (oQ T fun y m=>(hA y m).fl)) (aPX T h hn hE hA)
theorem aPZ (L:Option (List lE)) (Q:Option (List Int)) (h1:L≠some []) (h2:Q≠some []) (n1:((ol L).length:Int)<1000000) (n2:((ol Q).length:Int)<1000000) :
 aD Tryz.prog 161 [.agg (eP ⟨ov cV L,ov aJ Q⟩)]=some (.agg (eP ⟨uo 100 34 cV L,uo 3 1 aJ Q⟩)):=by
 rw[cL Tryz.func161 rfl aK5 rfl];simp only[Z8,seval,aPJ L h1 n1,aKX Q h2 n2,NW];refine Mq rfl (.inl rfl) rfl (x:=.agg (eP ⟨rv 5 0 L,rv 8 0 Q⟩)) (by simp only[bS,Z8,seval,NW]) ?_ (Qh ?_)
 ·simp only[lD,iV,eP,List.flatMap_append,List.flatMap_cons,List.flatMap_nil,List.append_nil,DQ];cases L<;>cases Q<;>simp
 ·unfold eP;rw[Wx,qN (iM (e:=100) (sz:=34) (c:=cV) ?_ fun l _=>mM l),cT,qN (iM (e:=3) (sz:=1) (c:=aJ) ?_ fun l _=>fG l),cT]
  ·intro l hl;subst hl;simp only[E8,seval,xU,rl,List.length_cons,Nat.lt_add_left_iff_pos,Nat.zero_lt_succ,if_true]<;>rfl
  ·intro l hl;subst hl;simp only[E8,seval,xU,rl,List.length_cons,Nat.lt_add_left_iff_pos,Nat.zero_lt_succ,if_true]<;>rfl
theorem Wy (d c:Nat) (L:Option (List lE)) (Q:Option (List Int)):pJ (wY d) c (eP ⟨uo 100 34 cV L,uo 3 1 aJ Q⟩)=(eP ⟨rv d c L,rv d (c+(rl 100 34 cV L).length) Q⟩,rl 100 34 cV L++rl 3 1 aJ Q):=by
 unfold eP;rw[Ww,Uk,Uk]
theorem aP0 (L:Option (List lE)) (Q:Option (List Int)) (h1:L≠some []) (h2:Q≠some []) (n1:((ol L).length:Int)<1000000) (n2:((ol Q).length:Int)<1000000) (st:St) (d:Nat) :
 aP (aD Tryz.prog) 161 [.agg (eP ⟨ov cV L,ov aJ Q⟩)] st (some d)=some { dst:=some d,val:=.agg (eP ⟨rv d (st.aO d) L,rv d (st.aO d+(rl 100 34 cV L).length) Q⟩),new:=FZ d (rl 100 34 cV L++rl 3 1 aJ Q)}:=by
 rw[GA (cO (.agg _ (qA _ (vP L) (bQ Q)))) (aPZ L Q h1 h2 n1 n2) ?_,Wy];rw[Wy];cases L with
 | some l=>exact .inr (by simp[rl])
 | none =>
   cases Q with
   | some q=>exact .inr (by simp[rl])
   | none=>exact .inl (.agg _ (qA _ (.v _) (.v _)))
def QS (s:aN) (b l q e o n t:AV):aN:={ s with cFg:={ s.cFg with jH:=b },fY:=⟨l,q⟩,dQ:=⟨e,o⟩,tree:=⟨n⟩,tables:=t }
theorem Wz {st:St} (s:aN) {b l q e o n t b' l' q' e' o' n' t':AV} (h1:jV st b=some b') (h2:jV st l=some l') (h3:jV st q=some q') (h4:jV st e=some e') (h5:jV st o=some o') (h6:jV st n=some n') (h7:jV st t=some t') :
 Tb st (aB (QS s b l q e o n t))=some (aB (QS s b' l' q' e' o' n' t')):=by
 simp only[QS,aB,bR,eP,jK,mF,Wx,qN h1,qN h2,qN h3,qN h4,qN h5,qN h6,qN h7,sV (tM _),sV (dW _),sV (iG _),sV (dD _),sV (kM _),cT]
theorem Jo (s:aN) (b l q e o n t:AV):(aB (QS s b l q e o n t)).flatMap gA=gA b++(gA l++(gA q++(gA e++(gA o++(gA n++gA t))))):=by
 simp only[QS,aB,bR,eP,jK,mF,List.flatMap_append,List.flatMap_cons,List.flatMap_nil,List.append_nil,mP (tM _),mP (dW _),mP (iG _),mP (dD _),mP (kM _),List.nil_append,List.append_assoc]
theorem xE {α:Type} (e sz:Nat) (c:List α→List AV) (l:List α):rl e sz c (some l)=[.row e sz l.length (c l)]:=rfl
theorem aP1 {s:aN} {v:SV} (hs:SD s v) (gN:NEv v) (hB:v.B≠some []) (hL:v.L≠some []) (ht:0<v.ns.length) :
 aD Tryz.prog 109 [.agg (aB s)]=some (.agg (aB (QS s (uo 23 1 bD v.B) (uo 100 34 cV v.L) (uo 3 1 aJ v.Q) (uo 87 67 dC v.E) (uo 74 238 aH v.O) (.uniq 76 240 v.ns.length (bZ v.ns)) (uo 118 34 aR v.T)))):=by
 have hv:s.fY=⟨ov cV v.L,ov aJ v.Q⟩:=by
  have h1:=hs.dR
  have h2:=hs.gZ
  cases hc:s.fY with
  | mk a b=>rw[hc] at h1 h2;simp only at h1 h2;rw[h1,h2]
 rw[cL Tryz.func109 rfl aK6 rfl];simp only[Z8,seval,hs.jH,hv,hs.early,hs.bY,hs.tree,hs.tables,N6,NW,aKW v.B hB hs.nB,aP0 v.L v.Q hL gN.q hs.nL hs.nQ,aPU v.E gN.e hs.nE gN.ea hs.eV,aPM v.O gN.o hs.nO,aNq v.ns ht hs.nn,aPY v.T gN.t hs.nT gN.tb hs.tB];refine Mq rfl (.inl rfl) rfl (x:=.agg (aB (QS s (rv 6 0 v.B) (rv 11 0 v.L) (rv 11 (rl 100 34 cV v.L).length v.Q) (rv 16 0 v.E) (rv 22 0 v.O) (.own 27 0) (rv 31 0 v.T)))) ?x1 ?x2 (Qh (Wz s ?b1 ?l1 ?q1 ?e1 ?o1 ?n1 ?t1))
 case x1=>simp only[bS,Z8,seval,NW,QS]
 case x2 =>
  show ((aB _).flatMap gA).Nodup
  rw[Jo];simp only[DQ,show ∀a b,gA (.own a b)=[(a,b)] from fun _ _=>rfl]
  cases v.B<;>cases hvl:v.L<;>cases v.Q<;>cases v.E<;>cases v.O<;>cases v.T<;>simp[rl]
 case b1=>exact iM (fun l hl=>by simp only[E8,seval,NW,hl,xE,List.length_cons,List.length_nil,Nat.lt_add_left_iff_pos,Nat.zero_lt_succ,if_true]<;>rfl) fun l _=>gV l
 case l1 =>
  refine iM (fun l hl=>?_) fun l _=>mM l
  simp only[E8,seval,NW,hl,xE];simp
 case q1 =>
  refine iM (fun l hl=>?_) fun l _=>fG l
  simp only[E8,seval,NW,hl,xE];simp
 case e1=>exact iM (fun l hl=>by simp only[E8,seval,NW,hl,xE,List.length_cons,List.length_nil,Nat.lt_add_left_iff_pos,Nat.zero_lt_succ,if_true]<;>rfl) fun l hl=>sI l fun y m=>(hs.eV y (by rw[hl];exact m)).fl
 case o1=>exact iM (fun l hl=>by simp only[E8,seval,NW,hl,xE,List.length_cons,List.length_nil,Nat.lt_add_left_iff_pos,Nat.zero_lt_succ,if_true]<;>rfl) fun l _=>oO l
 case n1=>exact iM (L:=some v.ns) (fun l hl=>by cases hl;simp only[E8,seval,NW,xE,List.length_cons,List.length_nil,Nat.lt_add_left_iff_pos,Nat.zero_lt_succ,if_true]<;>rfl) fun l _=>jQ l
 case t1=>exact iM (fun l hl=>by simp only[E8,seval,NW,hl,xE,List.length_cons,List.length_nil,Nat.lt_add_left_iff_pos,Nat.zero_lt_succ,if_true]<;>rfl) fun l hl=>lF l fun y m=>(hs.tB y (by rw[hl];exact m)).fl
theorem N7 (d c e sz n:Nat) (cs:List AV):pJ (wY d) c [.uniq e sz n cs]=([.own d c],[.row e sz n cs]):=rfl
def Ck (v:SV):List mI:=rl 23 1 bD v.B++(rl 100 34 cV v.L++(rl 3 1 aJ v.Q++(rl 87 67 dC v.E++(rl 74 238 aH v.O++([.row 76 240 v.ns.length (bZ v.ns)]++rl 118 34 aR v.T)))))
def nB (v:SV):Nat:=(rl 23 1 bD v.B).length
def nL (v:SV):Nat:=nB v+(rl 100 34 cV v.L).length
def nQ (v:SV):Nat:=nL v+(rl 3 1 aJ v.Q).length
def nE (v:SV):Nat:=nQ v+(rl 87 67 dC v.E).length
def nO (v:SV):Nat:=nE v+(rl 74 238 aH v.O).length
def XP (s:aN) (v:SV) (d c:Nat):aN:=QS s (rv d c v.B) (rv d (c+nB v) v.L) (rv d (c+nL v) v.Q) (rv d (c+nQ v) v.E) (rv d (c+nE v) v.O) (.own d (c+nO v)) (rv d (c+nO v+1) v.T)
theorem La (s:aN) (v:SV) (d c:Nat):pJ (wY d) c (aB (QS s (uo 23 1 bD v.B) (uo 100 34 cV v.L) (uo 3 1 aJ v.Q) (uo 87 67 dC v.E) (uo 74 238 aH v.O) (.uniq 76 240 v.ns.length (bZ v.ns)) (uo 118 34 aR v.T)))=(aB (XP s v d c),Ck v):=by
 simp only[QS,XP,aB,bR,eP,jK,mF,Ww,Uk,N7,qZ d _ (tM _),qZ d _ (dW _),qZ d _ (iG _),qZ d _ (dD _),qZ d _ (kM _),List.nil_append,List.length_nil,Nat.add_zero,List.append_assoc,List.length_append,List.length_cons,Ck,nO,nE,nQ,nL,nB,Nat.add_assoc,List.append_nil]
theorem aP2 {s:aN} {v:SV} (hs:SD s v) (gN:NEv v) (hB:v.B≠some []) (hL:v.L≠some []) (ht:0<v.ns.length) (st:St) (d:Nat) :
 aP (aD Tryz.prog) 109 [.agg (aB s)] st (some d)=some { dst:=some d,val:=.agg (aB (XP s v d (st.aO d))),new:=some (d,Ck v)}:=by
 have h0:Ck v≠[]:=by simp[Ck]
 rw[GA (cO hs.flat) (aP1 hs gN hB hL ht) (by rw[La];exact .inr h0),La]
 simp only[FZ,if_neg h0]
theorem N8 (x:Option Nat) (y:AV) (d:Nat) (v:SV) (st:St):({ dst:=x,val:=y,new:=some (d,Ck v)}:qR).apply st=(st.news d (Ck v)).put x y:=rfl
theorem XQ {α:Type} (d k:Nat) (l:List α):rv d k (some l)=.own d k:=rfl
theorem lH {α:Type} (a b:List α) (n i:Nat) (h:n=a.length+i):(a++b)[n]? = b[i]?:=by
 rw[h,List.getElem?_append_right (by omega)]
 congr 1
 omega
theorem aK7 (v:SV) (l:List Int) (h:v.B=some l):(Ck v)[0]? = some (.row 23 1 l.length (bD l)):=by simp[Ck,h,rl]
theorem aK8 (v:SV) (l:List lE) (h:v.L=some l):(Ck v)[nB v]? = some (.row 100 34 l.length (cV l)):=by
 unfold Ck;rw[lH _ _ _ 0 (by simp[nB]),h];rfl
theorem aK9 (v:SV) (l:List Int) (h:v.Q=some l):(Ck v)[nL v]? = some (.row 3 1 l.length (aJ l)):=by
 unfold Ck;rw[lH _ _ _ _ (show nL v=_+_ from rfl),lH _ _ _ 0 (by simp),h];rfl
theorem aLa (v:SV) (l:List rQ) (h:v.E=some l):(Ck v)[nQ v]? = some (.row 87 67 l.length (dC l)):=by
 unfold Ck;rw[lH _ _ _ ((rl 100 34 cV v.L).length+(rl 3 1 aJ v.Q).length) (by simp[nQ,nL,nB,Nat.add_assoc]),lH _ _ _ _ rfl,lH _ _ _ 0 (by simp),h];rfl
theorem aLb (v:SV) (l:List Block) (h:v.O=some l):(Ck v)[nE v]? = some (.row 74 238 l.length (aH l)):=by
 unfold Ck;rw[lH _ _ _ ((rl 100 34 cV v.L).length+((rl 3 1 aJ v.Q).length+(rl 87 67 dC v.E).length)) (by simp[nE,nQ,nL,nB,Nat.add_assoc]),lH _ _ _ _ rfl,lH _ _ _ _ rfl,lH _ _ _ 0 (by simp),h];rfl
theorem aLc (v:SV):(Ck v)[nO v]? = some (.row 76 240 v.ns.length (bZ v.ns)):=by
 unfold Ck;rw[lH _ _ _ ((rl 100 34 cV v.L).length+((rl 3 1 aJ v.Q).length+((rl 87 67 dC v.E).length+(rl 74 238 aH v.O).length))) (by simp[nO,nE,nQ,nL,nB,Nat.add_assoc]),lH _ _ _ _ rfl,lH _ _ _ _ rfl,lH _ _ _ _ rfl,lH _ _ _ 0 (by simp)];rfl
theorem aLd (v:SV) (l:List Table) (h:v.T=some l):(Ck v)[nO v+1]? = some (.row 118 34 l.length (aR l)):=by
 unfold Ck;rw[lH _ _ _ ((rl 100 34 cV v.L).length+((rl 3 1 aJ v.Q).length+((rl 87 67 dC v.E).length+((rl 74 238 aH v.O).length+1)))) (by simp[nO,nE,nQ,nL,nB,Nat.add_assoc]),lH _ _ _ _ rfl,lH _ _ _ _ rfl,lH _ _ _ _ rfl,lH _ _ _ _ rfl,lH _ _ _ 0 (by simp),h];rfl
theorem beI (x:Int):(x == x)=true:=by simp
theorem p4 {call:Nat→List AV→Option AV} {ops:Array Oper} {st:St} {T:Nat} {pos:String} {eG:Array Edge} (s x:Operand):cB Tryz.prog call ops ⟨some 26,.call ⟨.builtin .append,#[s,x],#[54,54]⟩,T,pos,eG,none⟩ st=cH (jZ Tryz.prog st 54 (st.ev s) (st.ev x)) fun u =>
 some ((st.jE u.1 u.2.1 (some u.2.2.1)).put (some 26) (.vw u.1 u.2.1 0 u.2.2.2)):=TA s x 54 26 (aBz rfl)
theorem Lb (L:List Request) (k:Nat):(aA L).take (k * 35)=aA (L.take k):=wZ (c:=bM) (sz:=35) fP L k
theorem Xa (L:List Request) (k:Nat):(aA L).drop (k * 35)=aA (L.drop k):=xA (c:=bM) (sz:=35) fP L k
theorem DR (a b:List Request):aA (a++b)=aA a++aA b:=by simp[aA]
theorem Jp (l:List Request):∀c∈aA l,fF c:=by
 intro c hc;obtain⟨x,_,hx⟩:=List.mem_flatMap.1 hc
 exact GB x c hx
theorem c81 (L:List Request) (i j:Nat) (hij:i≤j) (hj:j≤L.length) (hn:(L.length:Int)<1000000) :
 aD Tryz.prog 81 [.uniq 63 35 L.length (aA L),.v (.int .i64 i),.v (.int .i64 j)]=some (.uniq 63 35 (L.take i++L.drop j).length (aA (L.take i++L.drop j))):=by
 rw[Ik Tryz.prog Tryz.func81 rfl aP3 _ _ _ _ _ (rU _ _)];have a3:(0:Int)≤i∧(i:Int)≤j∧(j:Int)≤L.length∧(L.length:Int)≤L.length:=by omega
 have s3:∀(st:St) (lo hi mx:Operand),st.heap 0 0=some (.row 63 35 L.length (aA L))→st.ev lo=.v (.int .i64 i)→st.ev hi=.v (.int .i64 j)→st.ev mx=.v (.int .i64 L.length)→vE Tryz.prog st 54 (.own 0 0) (some lo) hi mx=some (.sl ((j:Int)-i).toNat []):=fun st lo hi mx h1 h2 h3 h4=>by
  simp only[vE,Bj,h1,h2,h3,h4,if_pos a3]
 by_cases e:(i:Int)=j
 ·have e':i=j:=by omega
  subst e'
  rw[List.take_append_drop];simp only[Z8,seval,iT,lP,iU,jW,lR,s3,beI];exact LH (P:=Tryz.prog) (fn:=Tryz.f81) (s:=0) (g:=0) (.inl rfl) rfl (by unfold jR;simp only[E8,seval,iT]) (by simp only[E8,seval,iU]) (Jp L)
 have bA:i<j:=by omega
 obtain⟨K,hK⟩:∃K,i+(L.length-j)=K:=⟨_,rfl⟩
 have hKn:K<L.length:=by omega
 obtain⟨L2,hL2⟩:∃L2,L.take i++L.drop j++L.drop K=L2:=⟨_,rfl⟩
 have l2:L2.length=L.length:=by rw[← hL2];simp;omega
 have lK:(L.take i++L.drop j).length=K:=by simp;omega
 have t2:L2.take K=L.take i++L.drop j:=by rw[← hL2,← lK];exact List.take_left
 have f1:∀(st:St) (hi:Operand),st.heap 0 0=some (.row 63 35 L.length (aA L))→st.ev hi=.v (.int .i64 i)→cU Tryz.prog st 54 (.own 0 0) none (some hi)=some (.vw 0 0 0 i):=fun st hi hh he=>by
  have h1:¬((0:Int)=i∧¬((0:Int)=0∧0<L.length)):=by omega
  have h2:(0:Int)≤i∧(i:Int)≤L.length:=by omega
  simp only[cU,Bj,hh,he,if_neg h1,h2,Int.le_refl,and_self,if_true];simp
  intro h3 h4;rw[h4] at hj;simp at hj
  omega
 obtain⟨X,f2,f2v⟩:∃X,(∀(st:St) (lo:Operand),st.heap 0 0=some (.row 63 35 L.length (aA L))→st.ev lo=.v (.int .i64 j)→cU Tryz.prog st 54 (.own 0 0) (some lo) none=some X) ∧
  (∀st:St,st.heap 0 0=some (.row 63 35 L.length (aA L))→aQ st X=some (L.length-j,aA (L.drop j))):=by
  by_cases g:j=L.length
  ·refine⟨.sl 0 [],fun st lo hh he=>?_,fun st hh=>by rw[g];simp[aQ,aA]⟩
   have h1:(j:Int)=L.length∧¬((j:Int)=0∧0<L.length):=by omega
   have h2:(0:Int)≤j∧(j:Int)≤L.length:=by omega
   simp only[cU,Bj,hh,he,if_pos h1,h2,Int.le_refl,and_self,if_true]
  ·refine⟨.vw 0 0 (j * 35) (L.length-j),fun st lo hh he=>?_,fun st hh=>?_⟩
   ·have h1:¬((j:Int)=L.length∧¬((j:Int)=0∧0<L.length)):=by omega
    have h2:(0:Int)≤j∧(j:Int)≤L.length:=by omega
    have h3:((L.length:Int)-(j:Int)).toNat=L.length-j:=by omega
    simp only[cU,Bj,hh,he,if_neg h1,h2,h3,Int.le_refl,and_self,if_true,Int.toNat_natCast]
   ·have hb:j * 35+(L.length-j) * 35≤(aA L).length:=by rw[kJ];omega
    simp only[aQ,hh,if_pos hb];rw[Xa,List.take_of_length_le (by rw[kJ];simp)]
 have f3:∀st:St,st.heap 0 0=some (.row 63 35 L.length (aA L))→jZ Tryz.prog st 54 (.vw 0 0 0 i) X=some (0,0,.row 63 35 L.length (aA L2),K):=fun st hh=>by
  have hc:(63:Nat)=63∧(35:Nat)=35∧(aA (L.drop j)).length=(L.length-j) * 35∧i+(L.length-j)≤L.length:=⟨rfl,rfl,by rw[kJ];simp,by omega⟩
  simp only[jZ,Bj,f2v st hh,hh];rw[if_pos ⟨trivial,trivial,hc.2.2⟩,← Nat.add_mul,hK,Lb,Xa,← DR,← DR,hL2]
 have f4:∀st:St,st.heap 0 0=some (.row 63 35 L.length (aA L2))→aQ st (.vw 0 0 0 K)=some (K,aA (L.take i++L.drop j)):=fun st hh=>by
  have hb:0+K * 35≤(aA L2).length:=by rw[kJ,l2];omega
  simp only[aQ,hh,if_pos hb,List.drop_zero];rw[Lb,t2]
 have f5:∀(st:St) (lo hi:Operand),st.heap 0 0=some (.row 63 35 L.length (aA L2))→st.ev lo=.v (.int .i64 K)→st.ev hi=.v (.int .i64 L.length)→cU Tryz.prog st 54 (.vw 0 0 0 K) (some lo) (some hi)=some (.vw 0 0 (K * 35) (L.length-K)):=fun st lo hi hh h1 h2=>by
  have h3:(0:Int)≤K∧(K:Int)<L.length∧(L.length:Int)≤L.length:=by omega
  have h4:((L.length:Int)-(K:Int)).toNat=L.length-K:=by omega
  simp only[cU,Bj,hh,h1,h2,if_pos h3,h4,Int.toNat_natCast]
 obtain⟨Z,f6,hZ,hZm⟩:∃Z,(∀st:St,st.heap 0 0=some (.row 63 35 L.length (aA L2))→tD Tryz.prog st 54 (.vw 0 0 (K * 35) (L.length-K))=some (some (0,0,.row 63 35 L.length (aA (L.take i++L.drop j)++Z))))∧Z.length=(L.length-K) * 35∧∀c∈Z,fF c:=by
  refine⟨(List.range (L.length-K)).flatMap fun _=>Cl.map AV.v,fun st hh=>?_, ?_,fun c hc=>?_⟩
  ·have hc:(63:Nat)=63∧(35:Nat)=35∧K * 35+(L.length-K) * 35≤(aA L2).length:=⟨rfl,rfl,by rw[kJ,l2];omega⟩
   simp only[tD,Bj,aBA,hh];rw[if_pos ⟨trivial,trivial,hc.2.2⟩];have hd:(aA L2).drop (K * 35+(L.length-K) * 35)=[]:=List.drop_of_length_le (by rw[kJ,l2];omega)
   rw[hd,Lb,t2,List.append_nil]
  ·have hv:(Cl.map AV.v).length=35:=by kernel_rfl
   generalize L.length-K=m
   induction m with
   | zero=>rfl
   | succ m ih=>rw[List.range_succ,List.flatMap_append,List.length_append,ih];simp only[List.flatMap_cons,List.flatMap_nil,List.append_nil,hv];omega
  ·obtain⟨_,_,hc⟩:=List.mem_flatMap.1 hc
   obtain⟨x,_,rfl⟩:=List.mem_map.1 hc
   exact .v x
 have fl:((aA (L.take i++L.drop j))++Z).length=L.length * 35:=by rw[List.length_append,kJ,lK,hZ,← Nat.add_mul];congr 1;omega
 simp only[Z8,seval,iT,lP,iU,jW,lR,s3,bf e,p4,N9,f1,f2,f3,f4,f5,f6];have hE:=fun st=>aBB (st:=st) (P:=Tryz.prog) (fn:=Tryz.f81) (k:=K) (ee:=63) (sz:=35) (n:=L.length) (cs:=aA (L.take i++L.drop j)++Z) (e:=.ret) (s:=0) (g:=0) (.inl rfl) rfl
 have tk:(aA (L.take i++L.drop j)++Z).take (K * 35)=aA (L.take i++L.drop j):=by
  rw[← lK,← kJ];exact List.take_left
 simp only[tk] at hE;rw[lK];exact hE _ (by unfold jR;simp only[E8,seval,iT]) (by simp only[E8,seval,iU]) (by omega) fl (fun c hc=>by
  rcases List.mem_append.1 hc with hc|hc
  ·exact Jp _ c hc
  ·exact hZm c hc)
def AJ (t:State) (S:aN) (q r:AV):State:={ t with store:=S,cW:=q,nA:=r }
def nS (v:SV):Nat:=(Ck v).length
def nR (v:SV) (Q:Option (List Request)):Nat:=nS v+(rl 63 35 aA Q).length
def JN (v:SV) (Q R:Option (List Request)):List mI:=Ck v++(rl 63 35 aA Q++rl 63 35 aA R)
def cpT (t:State) (v:SV) (Q R:Option (List Request)) (d c:Nat):State:=AJ t (XP t.store v d c) (rv d (c+nS v) Q) (rv d (c+nR v Q) R)
theorem qO {α:Type} (d k e sz:Nat) (c:List α→List AV) (L:Option (List α)):gA (rv d k L)=(List.range' k (rl e sz c L).length).map (Prod.mk d):=by cases L<;>rfl
theorem aBD (s:aN) (v:SV) (d c:Nat):(aB (XP s v d c)).flatMap gA=(List.range' c (nS v)).map (Prod.mk d):=by
 have e:nS v=(rl 23 1 bD v.B).length+((rl 100 34 cV v.L).length+((rl 3 1 aJ v.Q).length+((rl 87 67 dC v.E).length+((rl 74 238 aH v.O).length+(1+(rl 118 34 aR v.T).length))))):=by
  simp only[nS,Ck,List.length_append,List.length_cons,List.length_nil]
 unfold XP;rw[Jo,qO d c 23 1 bD v.B,qO d (c+nB v) 100 34 cV v.L,qO d (c+nL v) 3 1 aJ v.Q,qO d (c+nQ v) 87 67 dC v.E,qO d (c+nE v) 74 238 aH v.O,qO d (c+nO v+1) 118 34 aR v.T,e,
  show gA (.own d (c+nO v))=(List.range' (c+nO v) 1).map (Prod.mk d) from rfl]
 simp only[← List.map_append];congr 1
 have a:=fun s m n=>(List.range'_append_1 (s:=s) (m:=m) (n:=n)).symm
 rw[a c,a (c+_),a (c+_+_),a (c+_+_+_),a (c+_+_+_+_),a (c+_+_+_+_+_)];simp only[nO,nE,nQ,nL,nB,Nat.add_assoc]
theorem O0 (t:State) (v:SV) (Q R:Option (List Request)) (a b c:Nat):(aF (AJ t (XP t.store v a 0) (rv b 0 Q) (rv c 0 R))).flatMap gA=(List.range' 0 (nS v)).map (Prod.mk a)++((List.range' 0 (rl 63 35 aA Q).length).map (Prod.mk b)++(List.range' 0 (rl 63 35 aA R).length).map (Prod.mk c)):=by
 simp only[AJ,aF,List.flatMap_append,List.flatMap_cons,List.flatMap_nil,List.append_nil,aBD,mP (dW _),mP (lW _),mP (kH _),qO b 0 63 35 aA Q,qO c 0 63 35 aA R]
theorem Xb (t:State) (v:SV) (Q R:Option (List Request)) (d c:Nat):pJ (wY d) c (aF (AJ t (QS t.store (uo 23 1 bD v.B) (uo 100 34 cV v.L) (uo 3 1 aJ v.Q) (uo 87 67 dC v.E) (uo 74 238 aH v.O) (.uniq 76 240 v.ns.length (bZ v.ns)) (uo 118 34 aR v.T)) (uo 63 35 aA Q) (uo 63 35 aA R)))=(aF (cpT t v Q R d c),JN v Q R):=by
 unfold cpT AJ aF;simp only[Ww,La,Uk,qZ d _ (dW _),qZ d _ (lW _),qZ d _ (kH _),List.length_nil,Nat.add_zero,List.append_nil,JN,nR,nS,Nat.add_assoc]
theorem aLe (v:SV) (j:Nat):(if j<(Ck v).length then (Ck v)[j]? else none)=(Ck v)[j]?:=by
 split
 ·rfl
 ·rw[List.getElem?_eq_none (by omega)]
theorem aBE {st:St} {s:aN} {v:SV} (hs:SD s v) {d c:Nat} (hh:∀j,j<nS v→st.heap d (c+j)=(Ck v)[j]?):Tb st (aB (XP s v d c))=some (aB (QS s (uo 23 1 bD v.B) (uo 100 34 cV v.L) (uo 3 1 aJ v.Q) (uo 87 67 dC v.E) (uo 74 238 aH v.O) (.uniq 76 240 v.ns.length (bZ v.ns)) (uo 118 34 aR v.T))):=by
 have ix:∀ {j:Nat} {e:mI},(Ck v)[j]? = some e→st.heap d (c+j)=some e:=fun h=>by rw[hh _ (List.getElem?_eq_some_iff.1 h).1,h]
 exact Wz s (iM (fun l hl=>by have:=ix (aK7 v l hl);rwa [Nat.add_zero] at this) fun l _=>gV l) (iM (fun l hl=>ix (aK8 v l hl)) fun l _=>mM l) (iM (fun l hl=>ix (aK9 v l hl)) fun l _=>fG l)
  (iM (fun l hl=>ix (aLa v l hl)) fun l hl=>sI l fun y m=>(hs.eV y (by rw[hl];exact m)).fl) (iM (fun l hl=>ix (aLb v l hl)) fun l _=>oO l)
  (iM (L:=some v.ns) (fun l hl=>by cases hl;exact ix (aLc v)) fun l _=>jQ l) (iM (fun l hl=>by have:=ix (aLd v l hl);rwa [← Nat.add_assoc] at this) fun l hl=>lF l fun y m=>(hs.tB y (by rw[hl];exact m)).fl)
theorem aFm {st:St} {s:aN} {v:SV} (hs:SD s v) {d c:Nat} (hh:∀j,j<nS v→st.heap d (c+j)=(Ck v)[j]?):AK st (aB (XP s v d c))=some (aB s):=by
 have ix:∀ {j:Nat} {e:mI},(Ck v)[j]? = some e→st.heap d (c+j)=some e:=fun h=>by rw[hh _ (List.getElem?_eq_some_iff.1 h).1,h]
 rw[gB];simp only[XP,QS];rw[pC (e:=23) (sz:=1) (c:=bD) (fun l hl=>by have:=ix (aK7 v l hl);rwa [Nat.add_zero] at this) (fun l _=>gV l),cT,
  pC (e:=100) (sz:=34) (c:=cV) (fun l hl=>ix (aK8 v l hl)) (fun l _=>mM l),cT,
  pC (e:=3) (sz:=1) (c:=aJ) (fun l hl=>ix (aK9 v l hl)) (fun l _=>fG l),cT,
  pC (e:=87) (sz:=67) (c:=dC) (fun l hl=>ix (aLa v l hl)) (fun l hl=>sI l fun y m=>(hs.eV y (by rw[hl];exact m)).fl),cT,
  pC (e:=74) (sz:=238) (c:=aH) (fun l hl=>ix (aLb v l hl)) (fun l _=>oO l),cT,
  ← XQ d (c+nO v) v.ns,pC (e:=76) (sz:=240) (c:=bZ) (fun l hl=>by cases hl;exact ix (aLc v)) (fun l _=>jQ l),cT,
  pC (e:=118) (sz:=34) (c:=aR) (fun l hl=>by have:=ix (aLd v l hl);rwa [← Nat.add_assoc] at this) (fun l hl=>lF l fun y m=>(hs.tB y (by rw[hl];exact m)).fl),cT]
 have hn:ov bZ (some v.ns)=s.tree.nodes:=by rw[hs.tree];rfl
 rw[hn,← hs.jH,← hs.dR,← hs.gZ,← hs.early,← hs.bY,← hs.tables]
theorem TB {st:St} {t:State} {v:SV} (hs:SD t.store v) {d c:Nat} {q r q' r':AV} (hh:∀j,j<nS v→st.heap d (c+j)=(Ck v)[j]?) (h1:cI st q=some q') (h2:cI st r=some r'):eT st (.agg (aF (AJ t (XP t.store v d c) q r)))=some (.agg (aF (AJ t t.store q' r'))):=by
 rw[bO];simp only[AJ,aF,tN,aFm hs hh,vH,h1,h2,iZ (dW _),iZ (lW _),iZ (kH _),mH,cT]
theorem c80 {t:State} {v:SV} {Q R:Option (List Request)} (h:TD t v Q R) (gN:NEv v) (hB:v.B≠some []) (hL:v.L≠some []) (ht:0<v.ns.length) (hQ:Q≠some []) (hR:R≠some []) :
 aD Tryz.prog 80 [.agg (aF t)]=some (.agg (aF (AJ t (QS t.store (uo 23 1 bD v.B) (uo 100 34 cV v.L) (uo 3 1 aJ v.Q) (uo 87 67 dC v.E) (uo 74 238 aH v.O) (.uniq 76 240 v.ns.length (bZ v.ns)) (uo 118 34 aR v.T)) (uo 63 35 aA Q) (uo 63 35 aA R)))):=by
 have hs:=h.sd
 have nQ:((ol Q).length:Int)<1000000:=by have:=h.nQ;omega
 have nR:((ol R).length:Int)<1000000:=by have:=h.nR;omega
 rw[cL Tryz.func80 rfl aP4 rfl];simp only[Z8,seval,aP2 hs gN hB hL ht,h.Ak,h.ret,aKY Q hQ nQ,aKY R hR nR,NW,N8];have key:∀st:St,(∀j,j<nS v→st.heap 5 (0+j)=(Ck v)[j]?)→(∀l,Q=some l→st.heap 9 0=some (.row 63 35 l.length (aA l)))→(∀l,R=some l→st.heap 13 0=some (.row 63 35 l.length (aA l))) →
  Tb st (aF (AJ t (XP t.store v 5 0) (rv 9 0 Q) (rv 13 0 R)))=some (aF (AJ t (QS t.store (uo 23 1 bD v.B) (uo 100 34 cV v.L) (uo 3 1 aJ v.Q) (uo 87 67 dC v.E) (uo 74 238 aH v.O) (.uniq 76 240 v.ns.length (bZ v.ns)) (uo 118 34 aR v.T)) (uo 63 35 aA Q) (uo 63 35 aA R))):=fun st h1 h2 h3=>by
  simp only[AJ,aF,Wx,aBE hs h1,qN (iM h2 fun l _=>gM l),qN (iM h3 fun l _=>gM l),sV (dW _),sV (lW _),sV (kH _),cT]
 refine Mq rfl (.inl rfl) rfl (x:=.agg (aF (AJ t (XP t.store v 5 0) (rv 9 0 Q) (rv 13 0 R)))) ?x1 ?x2 (Qh (key _ ?h1 ?h2 ?h3))
 case x1=>simp only[bS,Z8,seval,NW,AJ]
 case x2 =>
  show ((aF _).flatMap gA).Nodup
  rw[O0];have nd:∀(d n:Nat),((List.range' 0 n).map (Prod.mk d)).Nodup:=fun d n=>List.Pairwise.map (Prod.mk d) (fun a b hab e=>hab (Prod.mk.inj e).2) (List.nodup_range' (step:=1))
  refine List.nodup_append.2 ⟨nd 5 _,List.nodup_append.2 ⟨nd 9 _,nd 13 _, ?_⟩, ?_⟩
  ·intro x hx y hy;obtain⟨_,_,rfl⟩:=List.mem_map.1 hx
   obtain⟨_,_,rfl⟩:=List.mem_map.1 hy
   simp
  ·intro x hx y hy;obtain⟨_,_,rfl⟩:=List.mem_map.1 hx
   rcases List.mem_append.1 hy with hy|hy
   ·obtain⟨_,_,rfl⟩:=List.mem_map.1 hy
    simp
   ·obtain⟨_,_,rfl⟩:=List.mem_map.1 hy
    simp
 case h1 =>
  intro j hj;rw[Nat.zero_add];simp only[E8,seval,NW,true_and,Nat.zero_le,Nat.sub_zero,aLe]
 case h2 =>
  intro l hl;simp only[E8,seval,NW,hl,xE,true_and,Nat.zero_le,Nat.sub_zero,List.length_cons,List.length_nil,Nat.zero_lt_succ,if_true]<;>rfl
 case h3 =>
  intro l hl;simp only[E8,seval,NW,hl,xE,true_and,Nat.zero_le,Nat.sub_zero,List.length_cons,List.length_nil,Nat.zero_lt_succ,if_true]<;>rfl
theorem O1 (v:SV) (Q R:Option (List Request)):JN v Q R≠[]:=by simp[JN,Ck]
theorem k80 {t:State} {v:SV} {Q R:Option (List Request)} (h:TD t v Q R) (gN:NEv v) (hB:v.B≠some []) (hL:v.L≠some []) (ht:0<v.ns.length) (hQ:Q≠some []) (hR:R≠some []) (st:St) (d:Nat) :
 aP (aD Tryz.prog) 80 [.agg (aF t)] st (some d)=some { dst:=some d,val:=.agg (aF (cpT t v Q R d (st.aO d))),new:=some (d,JN v Q R)}:=by
 rw[GA (cO h.flat) (c80 h gN hB hL ht hQ hR) (by rw[Xb];exact .inr (O1 v Q R)),Xb]
 simp only[FZ,if_neg (O1 v Q R)]
theorem MF (x:Option Nat) (y:AV) (d:Nat) (v:SV) (Q R:Option (List Request)) (st:St):({ dst:=x,val:=y,new:=some (d,JN v Q R)}:qR).apply st=(st.news d (JN v Q R)).put x y:=rfl
theorem aLf (v:SV) (Q R:Option (List Request)) (j:Nat) (h:j<nS v):(JN v Q R)[j]? = (Ck v)[j]?:=by
 unfold JN;rw[List.getElem?_append_left h]
theorem aLg (v:SV) (Q R:Option (List Request)) (l:List Request) (h:Q=some l):(JN v Q R)[nS v]? = some (.row 63 35 l.length (aA l)):=by
 unfold JN;rw[lH _ _ _ 0 (by rfl),h];rfl
theorem aLh (v:SV) (Q R:Option (List Request)) (l:List Request) (h:R=some l):(JN v Q R)[nR v Q]? = some (.row 63 35 l.length (aA l)):=by
 unfold JN;rw[lH _ _ _ _ (show nR v Q=_+_ from rfl),lH _ _ _ 0 (by rfl),h];rfl
theorem c79 (a:sK) (n:Int):aD Tryz.prog 79 [.agg (jN a),.v (.int .u64 n)]=some (.v (.bool (decide (a.tag=n)))):=by
 rw[cL Tryz.func79 rfl aP5 rfl];refine lM ?_
 by_cases h:a.tag=n
 ·simp only[Z8,seval,bt h];exact⟨_,bX rfl (by simp only[E8,seval]<;>rfl) (by first|exact .v _|simp only[dU]),by rw[decide_eq_true h]⟩
 ·simp only[Z8,seval,bf h];exact⟨_,bX rfl (by simp only[E8,seval]<;>rfl) (by first|exact .v _|simp only[dU]),by rw[decide_eq_false h]⟩
theorem k79 (a:sK) (n:Int) (st:St) (d:Option Nat):aP (aD Tryz.prog) 79 [.agg (jN a),.v (.int .u64 n)] st d=some { dst:=d,val:=.v (.bool (decide (a.tag=n)))}:=bT (bI (.agg _ (Ec a)) (.v _)) (c79 a n) (.v _)
theorem aBF (w:eR):Flat (.ip (bU w) 0):=.ip _ _ (fV w)
theorem c78 (r:Request) (w:eR):aD Tryz.prog 78 [.agg (bM r),.ip (bU w) 0]=some (.v (.bool (decide (r.tagged.tag=w.tagged.tag)))):=by
 rw[cL Tryz.func78 rfl aP6 rfl];refine lM ?_
 simp only[Z8,seval,k79];exact⟨_,bX rfl (by simp only[E8,seval]<;>rfl) (by first|exact .v _|simp only[dU]),rfl⟩
theorem k78 (r:Request) (w:eR) (st:St) (d:Option Nat):aP (aD Tryz.prog) 78 ([.agg (bM r)]++[.ip (bU w) 0]) st d=some { dst:=d,val:=.v (.bool (decide (r.tagged.tag=w.tagged.tag)))}:=bT (bI (.agg _ (fU r)) (aBF w)) (c78 r w) (.v _)
theorem c77 (o:Option (List Request)) (hn:((ol o).length:Int)<1000000) (w:eR):aD Tryz.prog 77 [ov aA o,.Bp 78 [.ip (bU w) 0]]=some (.v (.int .i64 (Bc (xC (ol o) w.tagged.tag) (ol o).length))):=by
 rw[cL Tryz.func77 rfl aP7 (by cases o<;>rfl)]
 refine lM ?_
 simp only[Z8,seval];refine cM (fun m st=>∃k:Nat,(st.env 0=ov aA o∧st.env 1=.Bp 78 [.ip (bU w) 0]∧st.env 7=.v (.int .i64 (ol o).length)∧st.env 8=.v (.int .i64 k))∧(∀j:Nat,j<k→¬xC (ol o) w.tagged.tag j)∧k≤(ol o).length∧m=(ol o).length-k)
  (fun e st=>(e=.ret∧∃k:Nat,k<(ol o).length∧xC (ol o) w.tagged.tag k∧(∀j:Nat,j<k→¬xC (ol o) w.tagged.tag j)∧st.env 4=.v (.int .i64 k))∨(e=.exit 0∧∀j:Nat,j<(ol o).length→¬xC (ol o) w.tagged.tag j)) (ol o).length ?step ?start ?rest
 case step =>
  rintro m st ⟨k,hI,hj,hk,hm⟩
  by_cases bA:(k:Int)<(ol o).length
  ·have q0:(0:Int)≤k:=by omega
   have hw:IntKind.i64.wrap ((k:Int)+1)=((k+1:Nat):Int):=by rw[pV _ (by omega) (by omega)];omega
   by_cases hr:xC (ol o) w.tagged.tag k
   ·have hd:decide ((gx bJ (ol o) (k:Int)).tagged.tag=w.tagged.tag)=true:=decide_eq_true hr
    apply oT (.ret)
    ·simp only[Z8,seval,hI,bA,q0,k78,hd];rfl
    ·exact .inl ⟨rfl,k,by omega,hr,hj,by simp only[E8,seval]⟩
   ·have hd:decide ((gx bJ (ol o) (k:Int)).tagged.tag=w.tagged.tag)=false:=decide_eq_false hr
    apply oN ((ol o).length-(k+1))
    ·simp only[Z8,seval,hI,bA,q0,k78,hd,hw];rfl
    ·exact⟨k+1,by simp only[E8,seval,hI],fun j h=>(Nat.lt_succ_iff_lt_or_eq.1 h).elim (hj j) fun e=>by subst e;exact hr,by omega,rfl⟩
  ·apply oT (.exit 0)
   ·simp only[Z8,seval,hI,bA];rfl
   ·exact .inr ⟨rfl,fun j h=>hj j (by omega)⟩
 case start=>exact⟨0,by simp only[E8,seval]<;>rfl,fun j h=>by omega,by omega,by omega⟩
 case rest =>
  rintro e st (⟨rfl,k,hk,hh,hj,h⟩|⟨rfl,hj⟩)
  ·have hv:Bc (xC (ol o) w.tagged.tag) (ol o).length=k:=Ig hh hj _ hk
   simp only[Z8,seval];exact⟨_,bX rfl (by simp only[E8,seval,h]<;>rfl) (by first|exact .v _|simp only[dU,h]),by rw[hv]⟩
  ·have hv:Bc (xC (ol o) w.tagged.tag) (ol o).length=-1:=sP _ hj
   simp only[Z8,seval];exact⟨_,bX rfl (by simp only[E8,seval]<;>rfl) (by first|exact .v _|simp only[dU]),by rw[hv]⟩
theorem aBG (t:State) (v:SV) (Q R:Option (List Request)) (d c:Nat):(cpT t v Q R d c).cW=rv d (c+nS v) Q:=rfl
theorem Qi:Flat (.agg (aF jF)):=by simp only[dU,jF,gE,mO,Gn,Ah,Km,and_self]
theorem O2 {t:State} {v:SV} {Q R:Option (List Request)} (h:TD t v Q R) (q:AV):AJ t t.store q (ov aA R)={ t with cW:=q }:=by
 unfold AJ;rw[← h.ret]
theorem c26 {t:State} {v:SV} {Q R:Option (List Request)} (h:TD t v Q R) (gN:NEv v) (hB:v.B≠some []) (hL:v.L≠some []) (ht:0<v.ns.length) (hQ:Q≠some []) (hR:R≠some []) (w:eR):∃x,aD Tryz.prog 26 [.agg (aF t),.agg (bU w)]=some x ∧
 (((∀j:Nat,j<(ol Q).length→¬xC (ol Q) w.tagged.tag j)∧x=.eB [.agg (bM bJ),.agg (aF jF),.v (.int .i64 23)]) ∨
  ∃k:Nat,k<(ol Q).length∧xC (ol Q) w.tagged.tag k∧(∀j:Nat,j<k→¬xC (ol Q) w.tagged.tag j)∧x=.eB [.agg (bM (gx bJ (ol Q) (k:Int))),.agg (aF { t with cW:=ov aA (some ((ol Q).take k++(ol Q).drop (k+1)))}),.v (.int .i64 0)]):=by
 have lO:=h.fl
 have nQ1:((ol Q).length:Int)<1000000:=by have:=h.nQ;omega
 have Rx:=Qi
 have q77:∀(args:List AV) (st:St) (d:Option Nat),aP (aD Tryz.prog) 77 args st d=rO (aD Tryz.prog) 77 (cF (args.map (eT st))) (decide (∀x∈args,Flat x)) st d:=fun args st d=>lC _ _ _ _ _
 have k77:∀(fl:Bool) (st:St) (d:Option Nat),rO (aD Tryz.prog) 77 (some [ov aA Q,.Bp 78 [.ip (bU w) 0]]) fl st d=some { dst:=d,val:=.v (.int .i64 (Bc (xC (ol Q) w.tagged.tag) (ol Q).length))}:=fun fl st d=>Vl (c77 Q nQ1 w)
 have eV:∀(st:St) (o:Nat),Vi st (some (.cells (bU w))) o=some (.ip (bU w) o):=fun st o=>Kj st (fV w) o
 rw[cG Tryz.func26 rfl aLi (by kernel_rfl) rfl]
 rcases yH (xC (ol Q) w.tagged.tag) (ol Q).length with ⟨e,hj⟩|⟨k,hk,hh,hj,e⟩
 ·rw[e] at k77;simp only[ZG,seval,Bool.false_and,Prod.mk.injEq,aFo,h.Ak,q77,Ic,eV,k77];exact⟨_,by apply gD;rfl;all_goals simp only[aI,bS,Z8,seval,Rx]<;>rfl,.inl ⟨hj,rfl⟩⟩
 ·rw[e] at k77;have q0:¬(k:Int)<0:=by omega
  have q1:(0:Int)≤k:=by omega
  have q2:(k:Int)<((ol Q).length:Int):=by omega
  have hw:IntKind.i64.wrap ((k:Int)+1)=((k+1:Nat):Int):=by rw[pV _ (by omega) (by omega)];omega
  cases Q with
  | none=>simp[ol] at hk
  | some L =>
    rw[xF] at *
    have hd:=c81 L k (k+1) (by omega) (by omega) nQ1
    have km:∀s g d c,mvE (aD Tryz.prog) 81 [.v (.int .i64 k),.v (.int .i64 ((k+1:Nat):Int))] s g d c (some (.row 63 35 L.length (aA L)))=_:=fun s g d c=>LI (gM L) (bI (.v _) (.v _)) hd
    have eq:=aLg v (some L) R L rfl
    have lt:nS v<(JN v (some L) R).length:=(List.getElem?_eq_some_iff.1 eq).1
    have key:∀(st:St) (g:Nat),(∀j,j<nS v→st.heap 18 (0+j)=(Ck v)[j]?)→st.heap 24 g=some (.row 63 35 (L.take k++L.drop (k+1)).length (aA (L.take k++L.drop (k+1))))→(∀l,R=some l→st.heap 18 (0+nR v (some L))=some (.row 63 35 l.length (aA l)))→eT st (.agg (aF { cpT t v (some L) R 18 0 with cW:=.own 24 g }))=some (.agg (aF { t with cW:=ov aA (some (L.take k++L.drop (k+1)))})):=fun st g h1 h2 h3=>by
     rw[← O2 h];exact TB h.sd h1 (iY h2) (pC h3 fun l _=>gM l)
    simp only[ZG,seval,Bool.false_and,Prod.mk.injEq,aFo,h.Ak,q77,Ic,eV,k77,q0,q1,q2,hw,k80 h gN hB hL ht hQ hR,MF,NW,aBG,XQ,eq,lt,km,xF,Ey,Ew];refine⟨_,gD rfl (x1:=.agg (bM (gx bJ L (k:Int)))) ?a1 (x2:=.agg (aF { cpT t v (some L) R 18 0 with cW:=.own 24 0 })) ?a2 (x3:=.v (.int .i64 0)) ?a3 (dL (.agg _ (fU _))) (key _ 0 ?b1 ?b2 ?b3) (dL (.v _)),.inr ⟨k,hk,hh,hj,rfl⟩⟩
    case a1=>simp only[bS,Z8,seval,NW]
    case a2=>simp only[bS,Z8,seval,NW]
    case a3=>simp only[bS,E8,seval,NW]
    case b1 =>
     intro j hj;have lj:j<(JN v (some L) R).length:=by omega
     have nj:(j=nS v)=False:=eq_false (by omega)
     rw[Nat.zero_add];simp only[E8,seval,NW,true_and,Nat.zero_le,Nat.sub_zero,Nat.zero_add,nj,lj,if_true,if_false,aLf v (some L) R j hj]
    case b2=>simp only[E8,seval,NW]
    case b3 =>
     intro l hl;have er:=aLh v (some L) R l hl
     have lj:nR v (some L)<(JN v (some L) R).length:=(List.getElem?_eq_some_iff.1 er).1
     have nj:(nR v (some L)=nS v)=False:=eq_false (by simp[nR,rl])
     rw[Nat.zero_add];simp only[E8,seval,NW,true_and,Nat.zero_le,Nat.sub_zero,Nat.zero_add,nj,lj,if_true,if_false,er]
end Go.Ab.Tryz
namespace Go.Ab.Tryz
open Classical Go.Proofs Go.Ab
open Classical Go.Proofs Go.Ab
open Classical Go.Proofs Go.Ab
open Classical Go.Proofs Go.Ab
end Go.Ab.Tryz
namespace Go.Ab.Tryz
open Classical Go.Proofs Go.Ab
theorem TI.lists {t:State} {v:SV} {Q R:Option (List Request)} {q m:Int} (T:TI t v Q R q m):v.B≠some []∧∃L,v.L=some L∧L≠[]:=by
 have h1:=T.toTI0.jH.1
 have h2:=T.gi.KY
 constructor
 ·intro h;rw[h] at h1;exact absurd h1 (by simp[ol])
 ·cases h:v.L with
  | none=>rw[h] at h2;simp only[ol,Option.getD_none,List.length_nil] at h2;simp only[ol] at h1;omega
  | some L =>
    refine⟨L,rfl,fun e=>?_⟩
    rw[h,e] at h2;simp only[ol,Option.getD_some,List.length_nil] at h2;simp only[ol] at h1;omega
end Go.Ab.Tryz
namespace Go.Ab.Tryz
open Classical Go.Proofs Go.Ab
end Go.Ab.Tryz
namespace Go.Ab.Tryz
open Classical Go.Proofs Go.Ab
structure WT (t:State) (v:SV):Prop where
 td:TD t v (some [⟨⟨1⟩,mkRoot 9,0,0⟩]) none
 ne:NEv v
 hB:v.B≠some []
 hL:v.L≠some []
 pos:0<v.ns.length
 op:qL v.ns (mkRoot 9)
 tag:t.bE=2
 now:t.store.now=1
theorem x83:∃r,aD Tryz.prog 83 []=some r∧∃(t:State) (v:SV),r=.agg (aF t)∧WT t v:=by
 obtain⟨y,hy,c,b,rfl,hc⟩:=aKK [7] (by decide)
 have fc:Flat (.agg (bR c)):=(xP c).2 (by rw[hc.jH];exact dX _)
 have aBx:∀(st:St) (a g:Nat) (d:Option Nat),st.heap a g=some (.row 3 1 1 [.v (.int .i64 7)])→eE (aD Tryz.prog) 101 [.own a g] st d=some { dst:=d,val:=.agg (bR c),dJ:=some (a,g,none)}:=fun st a g d hh=>by
  rw[Dz (s:=a) (k:=g) rfl (by intro y hy;simp only[List.mem_cons,List.not_mem_nil,or_false] at hy;subst hy;exact .inr (.inl ⟨a,g,rfl⟩)),List.map_cons,List.map_nil,Ij (L:=[7]) hh,bK,gC]
  exact Wf hy fc
 obtain⟨y2,hy2,yL,last,y3,rfl,fy⟩:=aKU hc
 have g0:=(GI.new hc).now 1
 have r0:=RG.new hc
 have gf:=N1 hc
 obtain⟨s0,hs0⟩:∃s0,SK c b=s0:=⟨_,rfl⟩
 have I7:s0.cFg=c:=by rw[← hs0];rfl
 have FC:s0.bH.fin=⟨0,c.dV⟩:=by rw[← hs0];rfl
 have htr:s0.tree=⟨.sl (Ta c b).ns.length (bZ (Ta c b).ns)⟩:=by rw[← hs0];rfl
 have hb0:({ o9 c b with yL:=yL,last:=last }:State)={ store:=s0,cW:=.v (.slice none 0 0),nA:=.v (.slice none 0 0),bE:=1,yL:=yL,last:=last,overflow:=false,halted:=false }:=by rw[← hs0];rfl
 rw[hs0] at g0;have JL:=((TI.new hc).emit yL last).td.flat
 have M8:=kx hy2 (cO fc) (.eB _ (mC JL fy (.v _)))
 rw[hb0] at M8;obtain⟨w,hw⟩:∃w,Ta c b=w:=⟨_,rfl⟩
 rw[hw] at g0 gf htr r0;have hslot:(nd w.ns 0).block.slot=0:=by rw[← hw];rfl
 have hlen:w.ns.length=1:=by rw[← hw];rfl
 have kI:∀B:Block,B.root=mkRoot 9→B.parent=c.dV→B.slot=1→∀(st:St) (d:Option Nat),aP (aD Tryz.prog) 149 [.agg (cP ⟨w.ns⟩),.agg (aT B),.v (.int .i64 0)] st d=some { dst:=d,val:=.eB [.agg (cP ⟨w.ns++[⟨B,0,0⟩]⟩),.v (.int .i64 0)]}:=fun B h1 h2 h3 st d=>by
  have hE:Sy w.ns B 0=0:=by
   unfold Sy;rw[if_neg (by decide),h1,gf.2,if_neg (by omega),h2,gf.1,if_neg (by omega),hslot,h3,if_neg (by omega),if_neg (by rw[hlen];omega)]
  have hA:Dm w.ns B 0=.eB [.agg (cP ⟨w.ns++[⟨B,0,0⟩]⟩),.v (.int .i64 0)]:=by
   unfold Dm;rw[if_pos hE,h2,gf.1]
  rw[← hA];exact aId w.ns g0.sd.nn B 0 st d
 obtain⟨T1,SR⟩:∃T1:Block→State,T1=fun B=>{ store:={ cFg:=c,fY:=s0.fY,bH:=s0.bH,dQ:=s0.dQ,tree:={ nodes:=.sl (w.ns++[(⟨B,0,0⟩:Node)]).length (bZ (w.ns++[⟨B,0,0⟩]))},now:=1,hU:=s0.hU,tables:=s0.tables },cW:=.v (.slice none 0 0),nA:=.v (.slice none 0 0),bE:=1,yL:=yL,last:=last,overflow:=false,halted:=false }:=⟨_,rfl⟩
 have hP:∀B:Block,B.root=mkRoot 9→B.parent=c.dV→B.iI=mkRoot 109→TD (T1 B) { w with ns:=w.ns++[⟨B,0,0⟩]} none none∧qL (w.ns++[⟨B,0,0⟩]) (mkRoot 9):=fun B h1 h2 h3=>by
  have hs:Mw B=0:=by
   unfold Mw;rw[h3,if_neg];intro e;have e1:IntKind.u8.wrap 109=dI[0]:=by rw[← sU,e]
   rw[show dI[0]=0 from rfl] at e1
   exact absurd e1 (by decide)
  have hi:zL w B=w.ns++[⟨B,0,0⟩]:=by unfold zL;rw[h2,gf.1,hs]
  have g1:=g0.Iy (b:=B) (by rw[hlen];show ((1:Nat):Int)<s0.cFg.lT.rD;rw[I7];have:=hc.n6;omega) (by rw[h2,gf.1];omega)
  have eS:Tryz.Iy { s0 with now:=1 } w B=(T1 B).store:=by rw[SR];unfold Tryz.Iy;rw[hi];simp only[I7]
  have eW:Gp w B={ w with ns:=w.ns++[⟨B,0,0⟩]}:=by unfold Gp;rw[hi]
  rw[eS,eW] at g1;have n0:((ol (none:Option (List Request))).length:Int)<900000:=by show ((0:Nat):Int)<_;omega
  refine⟨⟨g1.sd,by rw[SR];rfl,by rw[SR];rfl,n0,n0⟩, ?_⟩
  have f9:aM (w.ns++[⟨B,0,0⟩]) (mkRoot 9)=1:=by
   rw[← hw];have e:(Ta c b).ns=[⟨FH c,-1,1⟩]:=rfl
   rw[e];unfold aM;have gN:¬(FH c).root=mkRoot 9:=by show ¬c.dV=mkRoot 9;rw[hc.gen];exact aD6 (by omega) (by omega) (by omega) (by omega) (by omega)
   simp[List.findIdx?_cons,gN,h1]
  refine⟨by rw[f9];omega, ?_⟩
  rw[f9,← hw];rfl
 have kO:∀B:Block,B.root=mkRoot 9→B.parent=c.dV→B.iI=mkRoot 109→∀(st:St) (a g:Nat) (d:Option Nat),st.heap a g=some (.row 27 32 1 (aV (mkRoot 9))) →
  eE (aD Tryz.prog) 32 [.agg (aF (T1 B)),.own a g] st d=some { dst:=d,val:=.agg (aF (FK (T1 B) (some [⟨⟨1⟩,mkRoot 9,0,0⟩],2))),dJ:=some (a,g,none)}:=fun B h1 h2 h3 st a g d hh=>by
  obtain⟨p1,p2⟩:=hP B h1 h2 h3
  have h:=c32 p1 (some [mkRoot 9]) (by show ((0:Nat):Int)+((1:Nat):Int)<_;omega)
  have hO:Fm (w.ns++[⟨B,0,0⟩]) (none,(T1 B).bE) (ol (some [mkRoot 9]))=(some [⟨⟨1⟩,mkRoot 9,0,0⟩],2):=by
   rw[SR];show DG _ (none,1) (mkRoot 9)=_
   unfold DG;rw[if_pos p2];rfl
  have p1n:({ w with ns:=w.ns++[⟨B,0,0⟩]}:SV).ns=w.ns++[⟨B,0,0⟩]:=rfl
  rw[p1n,hO] at h;have lO:=p1.fl
  have fo:Flat (.agg (aF (FK (T1 B) (some [⟨⟨1⟩,mkRoot 9,0,0⟩],2)))):=(qD _).2 ⟨lO.1,lO.2.1,lO.2.2.1,lO.2.2.2.1,lO.2.2.2.2.1,lO.2.2.2.2.2.1,lO.2.2.2.2.2.2.1,fO (some _),lO.2.2.2.2.2.2.2.2⟩
  have hh':eT st (.own a g)=some (ov eH (some [mkRoot 9])):=by
   have:eH [mkRoot 9]=aV (mkRoot 9):=by simp[eH]
   show _=some (AV.sl 1 (eH [mkRoot 9]))
   rw[this];exact MG hh (dD _)
  have ft:=p1.flat
  rw[Dz (s:=a) (k:=g) (by rw[List.flatMap_cons,sS ft];rfl) (by intro y hy;simp only[List.mem_cons,List.not_mem_nil,or_false] at hy;rcases hy with rfl|rfl;exact .inl ft;exact .inr (.inl ⟨a,g,rfl⟩)),List.map_cons,List.map_cons,List.map_nil,dL ft,hh',bK,bK,gC]
  exact Wf h fo
 simp only[SR] at kO;rw[cL Tryz.func83 rfl aP8 rfl];simp only[Z8,seval,aBx,M8,dT,I7,FC,htr,Pp,kI,kO];obtain⟨B,hB⟩:∃B:Block,B=⟨⟨⟨0,c.dV⟩,⟨0,c.dV⟩⟩,1,mkRoot 9,c.dV,mkRoot 109,eQ.diff,eQ.Vw,⟨0,c.dV⟩,⟨0,c.dV⟩,eQ.Bd⟩:=⟨_,rfl⟩
 obtain⟨p1,p2⟩:=hP B (by rw[hB]) (by rw[hB]) (by rw[hB])
 have lO:=p1.fl
 have fo:Flat (.agg (aF (FK (T1 B) (some [⟨⟨1⟩,mkRoot 9,0,0⟩],2)))):=(qD _).2 ⟨lO.1,lO.2.1,lO.2.2.1,lO.2.2.2.1,lO.2.2.2.2.1,lO.2.2.2.2.2.1,lO.2.2.2.2.2.2.1,fO (some _),lO.2.2.2.2.2.2.2.2⟩
 have hw':w.B=some b∧w.L=some (List.replicate b.length rT):=by rw[← hw];exact⟨rfl,rfl⟩
 refine⟨_,eU rfl (by simp only[E8,seval]<;>rfl) (by simp only[Z8,seval]<;>rfl) ?fl,FK (T1 B) (some [⟨⟨1⟩,mkRoot 9,0,0⟩],2),{ w with ns:=w.ns++[⟨B,0,0⟩]}, ?eq,⟨⟨p1.sd,rfl,p1.ret,by show ((1:Nat):Int)<_;omega,p1.nR⟩, ?_, ?_, ?_, ?_,p2,rfl,by rw[SR];rfl⟩⟩
 case fl=>subst SR hB;exact fo
 case eq=>subst SR hB;rfl
 ·exact⟨r0.ne.q,r0.ne.e,r0.ne.o,r0.ne.t,r0.ne.ea,r0.ne.tb⟩
 ·show w.B≠some []
  rw[hw'.1];have:=hc.nb
  intro e;cases e
  simp at this
 ·show w.L≠some []
  rw[hw'.2];have:=hc.nb
  intro e;have h2:=congrArg List.length (Option.some.inj e)
  rw[List.length_replicate,List.length_nil] at h2;omega
 ·show 0<(w.ns++[(⟨B,0,0⟩:Node)]).length
  simp
theorem aP9 {t:State} {v:SV} {Q R:Option (List Request)} (h:TD t v Q R) (w:eR) (hj:∀j:Nat,j<(ol Q).length→¬xC (ol Q) w.tagged.tag j):aD Tryz.prog 26 [.agg (aF t),.agg (bU w)]=some (.eB [.agg (bM bJ),.agg (aF jF),.v (.int .i64 23)]):=by
 have Rx:=Qi
 have nQ1:((ol Q).length:Int)<1000000:=by have:=h.nQ;omega
 have q77:∀(args:List AV) (st:St) (d:Option Nat),aP (aD Tryz.prog) 77 args st d=rO (aD Tryz.prog) 77 (cF (args.map (eT st))) (decide (∀x∈args,Flat x)) st d:=fun args st d=>lC _ _ _ _ _
 have k77:∀(fl:Bool) (st:St) (d:Option Nat),rO (aD Tryz.prog) 77 (some [ov aA Q,.Bp 78 [.ip (bU w) 0]]) fl st d=some { dst:=d,val:=.v (.int .i64 (Bc (xC (ol Q) w.tagged.tag) (ol Q).length))}:=fun fl st d=>Vl (c77 Q nQ1 w)
 have eV:∀(st:St) (o:Nat),Vi st (some (.cells (bU w))) o=some (.ip (bU w) o):=fun st o=>Kj st (fV w) o
 refine lM ?_
 rw[cG Tryz.func26 rfl aLi (by kernel_rfl) rfl]
 rw[sP _ hj] at k77;simp only[ZG,seval,Bool.false_and,Prod.mk.injEq,aFo,h.Ak,q77,Ic,eV,k77];exact⟨_,by apply gD;rfl;all_goals simp only[aI,bS,Z8,seval,Rx]<;>rfl,rfl⟩
theorem c29:aD Tryz.prog 29 []=some (.v (.bool true)):=by
 obtain⟨r,hr,t,v,rfl,W⟩:=x83
 have ft:=W.td.flat
 have k83:=kx hr (fun x h=>by cases h) ft
 obtain⟨y,hy,⟨hj,_⟩|⟨k,hk,hh,hj,rfl⟩⟩:=c26 W.td W.ne W.hB W.hL W.pos nofun nofun ⟨⟨1⟩,tO.kind,tO.dR⟩
 ·exact absurd rfl (hj 0 (by show 0<1;omega))
 obtain rfl:k=0:=by have:k<1:=hk;omega
 have n0:((ol (some ([]:List Request))).length:Int)<900000:=by show ((0:Nat):Int)<_;omega
 have T2:TD { t with cW:=ov aA (some [])} v (some []) none:=⟨W.td.sd,rfl,W.td.ret,n0,W.td.nR⟩
 have QR:=T2.flat
 have e1:({ t with cW:=ov aA (some ((ol (some [(⟨⟨1⟩,mkRoot 9,0,0⟩:Request)])).take 0++(ol (some [(⟨⟨1⟩,mkRoot 9,0,0⟩:Request)])).drop (0+1)))}:State)={ t with cW:=ov aA (some [])}:=rfl
 have e2:gx bJ (ol (some [(⟨⟨1⟩,mkRoot 9,0,0⟩:Request)])) ((0:Nat):Int)=⟨⟨1⟩,mkRoot 9,0,0⟩:=rfl
 rw[e1,e2] at hy;have fw:∀w:eR,Flat (.agg (bU w)):=fun w=>.agg _ (fV w)
 have ka:=kx hy (bI ft (fw _)) (.eB _ (mC (.agg _ (fU _)) QR (.v _)))
 have kb:=kx (aP9 T2 ⟨⟨1⟩,tO.kind,tO.dR⟩ (fun j h=>by simp[ol] at h)) (bI QR (fw _)) (.eB _ (mC (.agg _ (fU _)) Qi (.v _)))
 obtain⟨t2,ht2⟩:∃t2,({ t with cW:=ov aA (some [])}:State)=t2:=⟨_,rfl⟩
 rw[ht2] at ka kb T2;rw[cL Tryz.func29 rfl aQa rfl];refine lM ?_
 simp only[Z8,seval,k83,ka,kb,dT,Pp,k79,T2.Ak,xF,decide_true,beq_self_eq_true];exact⟨_,bX rfl (by simp only[E8,seval]<;>rfl) (by first|exact .v _|simp only[dU]),rfl⟩
theorem k29 (st:St) (d:Option Nat):aP (aD Tryz.prog) 29 [] st d=some { dst:=d,val:=.v (.bool true)}:=bT (fun x h=>by cases h) c29 (.v _)
end Go.Ab.Tryz
namespace Go.Ab.Tryz
open Go Go.Ab
def Cm:List Value:=[.int .u64 0]++([.int .i64 0]++sT)
end Go.Ab.Tryz
namespace Go.Ab.Tryz
open Classical Go.Proofs Go.Ab
end Go.Ab.Tryz
namespace Go.Ab.Tryz
open Classical Go.Proofs Go.Ab
theorem c84 {t:State} {v:SV} {Q R:Option (List Request)} (h:TD t v Q R) (r:cC):aD Tryz.prog 84 [.agg (aF t),.agg (aV r)]=some (.v (.bool (decide (qL v.ns r)))):=by
 have hr:=fB v.ns r
 rw[cL Tryz.func84 rfl aQb rfl];refine lM ?_
 by_cases g1:0≤aM v.ns r
 ·by_cases g2:(nd v.ns (aM v.ns r)).status=0
  ·simp only[Z8,seval,h.sd.tree,k89 _ _ h.sd.nn,g1,hr.2,bt g2];exact⟨_,bX rfl (by simp only[E8,seval]<;>rfl) (by first|exact .v _|simp only[dU]),by simp[qL,g1,g2]⟩
  ·simp only[Z8,seval,h.sd.tree,k89 _ _ h.sd.nn,g1,hr.2,bf g2];exact⟨_,bX rfl (by simp only[E8,seval]<;>rfl) (by first|exact .v _|simp only[dU]),by simp[qL,g1,g2]⟩
 ·simp only[Z8,seval,h.sd.tree,k89 _ _ h.sd.nn,g1];exact⟨_,bX rfl (by simp only[E8,seval]<;>rfl) (by first|exact .v _|simp only[dU]),by simp[qL,g1]⟩
def O3 (t:State) (v:SV) (Q R:Option (List Request)) (X:AV) (tag:Int):State:={ AJ t (XP t.store v 9 0) X (rv 9 (0+nR v Q) R) with bE:=tag }
theorem aQc {t:State} {v:SV} {Q R:Option (List Request)} (h:TD t v Q R) (q:Option (List Request)) (tag:Int) (hq:((ol q).length:Int)<900000) (r:cC) (st:St) (d:Option Nat) {X:AV} (hh:∀j,j<nS v→st.heap 9 (0+j)=(Ck v)[j]?) (hx:cI st X=some (ov aA q)) (hy:cI st (rv 9 (0+nR v Q) R)=some (ov aA R)) :
 aP (aD Tryz.prog) 84 [.agg (aF (O3 t v Q R X tag)),.agg (aV r)] st d=some { dst:=d,val:=.v (.bool (decide (qL v.ns r)))}:=by
 have T2:TD { t with cW:=ov aA q,bE:=tag } v q R:=⟨h.sd,rfl,h.ret,hq,h.nR⟩
 have he:eT st (.agg (aF (O3 t v Q R X tag)))=some (.agg (aF { t with cW:=ov aA q,bE:=tag })):=by
  have e:=TB (t:={ t with bE:=tag }) (v:=v) h.sd (d:=9) (c:=0) (q:=X) (r:=rv 9 (0+nR v Q) R) hh hx hy
  have e2:AJ { t with bE:=tag } ({ t with bE:=tag }:State).store (ov aA q) (ov aA R)={ t with cW:=ov aA q,bE:=tag }:=by unfold AJ;rw[← h.ret]
  rw[e2] at e;exact e
 rw[lC,List.map_cons,List.map_cons,List.map_nil,he,dL (.agg _ (dD r)),bK,bK,gC];exact FU (c84 T2 r)
theorem aFq {t:State} {v:SV} {Q R:Option (List Request)} (h:TD t v Q R) (q:Option (List Request)) (tag:Int) (st:St) {X:AV} (hh:∀j,j<nS v→st.heap 9 j=(Ck v)[j]?) (hx:cI st X=some (ov aA q)) (hy:cI st (rv 9 (nR v Q) R)=some (ov aA R)) :
 eT st (.agg (aF (O3 t v Q R X tag)))=some (.agg (aF { t with cW:=ov aA q,bE:=tag })):=by
 have e:=TB (t:={ t with bE:=tag }) (v:=v) h.sd (d:=9) (c:=0) (q:=X) (r:=rv 9 (0+nR v Q) R) (fun j hj=>by rw[Nat.zero_add];exact hh j hj) hx (by rw[Nat.zero_add];exact hy)
 have e2:AJ { t with bE:=tag } ({ t with bE:=tag }:State).store (ov aA q) (ov aA R)={ t with cW:=ov aA q,bE:=tag }:=by unfold AJ;rw[← h.ret]
 rw[e2] at e;exact e
theorem c31 {t:State} {v:SV} {Q R:Option (List Request)} (h:TD t v Q R) (gN:NEv v) (hB:v.B≠some []) (hL:v.L≠some []) (ht:0<v.ns.length) (hQ:Q≠some []) (hR:R≠some []) (L:Option (List cC)) (hn:((ol Q).length:Int)+(ol L).length<800000) (q:Option (List Request)) (tag:Int) (hq:Fm v.ns (Q,t.bE) (ol L)=(q,tag)) :
 aD Tryz.prog 31 [.agg (aF t),ov eH L]=some (.agg (aF { t with cW:=ov aA q,bE:=tag })):=by
 have k80':=k80 h gN hB hL ht hQ hR
 rw[cL Tryz.func31 rfl aQd (by cases L<;>rfl)]
 refine lM ?_
 obtain⟨Z,hZ⟩:∃Z,cpT t v Q R 9 0=Z:=⟨_,rfl⟩
 simp only[Z8,seval,k80',MF,NW];refine cM (fun m st=>∃(k:Nat) (X:AV) (p:Option (List Request)) (tg:Int),(st.env 10=ov eH L∧st.env 11=.v (.int .i64 (ol L).length)∧st.env 12=.v (.int .i64 k)∧st.env 4=.ptr 4 0 0∧st.heap 4 0=some (.cells (aF jF))∧st.env 5=.ptr 5 0 0∧st.heap 5 0=some (.cells (aF (O3 t v Q R X tg))))∧(∀j,j<nS v→st.heap 9 j=(Ck v)[j]?)∧(∀l,R=some l→st.heap 9 (nR v Q)=some (.row 63 35 l.length (aA l))) ∧
  ((p=none∧X=.v (.slice none 0 0))∨∃s g l,p=some l∧X=.own s g∧st.heap s g=some (.row 63 35 l.length (aA l))∧((s=27∧g<st.aO 27)∨(s=9∧g=nS v∧Q≠none)))∧Fm v.ns (Q,t.bE) ((ol L).take k)=(p,tg)∧k≤(ol L).length∧m=(ol L).length-k)
  (fun e st=>e=.exit 0∧∃(X:AV),(st.env 4=.ptr 4 0 0∧st.heap 4 0=some (.cells (aF jF))∧st.env 5=.ptr 5 0 0∧st.heap 5 0=some (.cells (aF (O3 t v Q R X tag))))∧(∀j,j<nS v→st.heap 9 j=(Ck v)[j]?)∧(∀l,R=some l→st.heap 9 (nR v Q)=some (.row 63 35 l.length (aA l))) ∧
   ((q=none∧X=.v (.slice none 0 0))∨∃s g l,q=some l∧X=.own s g∧st.heap s g=some (.row 63 35 l.length (aA l))∧((s=27∧g<st.aO 27)∨(s=9∧g=nS v∧Q≠none)))) (ol L).length ?step ?start ?rest
 case step =>
  rintro m st ⟨k,X,p,tg,hI,hH,hHR,hX,hp,hk,hm⟩
  by_cases bA:(k:Int)<(ol L).length
  case neg =>
   have De:k=(ol L).length:=by omega
   subst De;rw[List.take_length,hq] at hp;obtain⟨rfl,rfl⟩:=Prod.mk.inj hp
   apply oT (.exit 0)
   ·simp only[Z8,seval,hI,bA];rfl
   ·exact⟨rfl,X,by simp only[E8,seval,hI],fun j hj=>by simp only[E8,seval];exact hH j hj,fun l hl=>by simp only[E8,seval];exact hHR l hl,by simpa only[E8,seval] using hX⟩
  have q0:(0:Int)≤k:=by omega
  have hw:IntKind.i64.wrap ((k:Int)+1)=((k+1:Nat):Int):=by rw[pV _ (by omega) (by omega)];omega
  have tX:=Wk v.ns (Q,t.bE) (ol L) k (by omega)
  rw[hp] at tX;obtain⟨r,hr⟩:∃r,gx dI (ol L) (k:Int)=r:=⟨_,rfl⟩
  rw[hr] at tX;have lp:((ol p).length:Int)<900000:=by
   have h1:=FL v.ns (Q,t.bE) ((ol L).take k)
   rw[hp,List.length_take] at h1;have h2:(ol (p,tg).1).length=(ol p).length:=rfl
   have h3:(ol (Q,t.bE).1).length=(ol Q).length:=rfl
   omega
  have lp2:((ol p).length:Int)<1000000:=by omega
  obtain⟨K,hK⟩:∃K:St→Prop,K=fun zI=>(∀j,j<nS v→zI.heap 9 j=(Ck v)[j]?)∧(∀l,R=some l→zI.heap 9 (nR v Q)=some (.row 63 35 l.length (aA l)))∧cI zI X=some (ov aA p):=⟨_,rfl⟩
  have K0:K st:=by
   rw[hK];refine⟨hH,hHR, ?_⟩
   rcases hX with ⟨rfl,rfl⟩|⟨s,g,l,rfl,rfl,h1,_⟩
   ·exact cE (.v _)
   ·exact Tryz.iY h1
  have Kp:∀zI d y,K (St.put zI d y)=K zI:=fun zI d y=>by rw[hK];cases d<;>rfl
  have xn:∀zI e,cI (St.new zI 7 e) X=cI zI X:=fun zI e=>by
   rcases hX with ⟨rfl,rfl⟩|⟨s,g,l,rfl,rfl,h1,h2⟩
   ·rw[cE (.v _),cE (.v _)]
   ·have s7:(s=7)=False:=eq_false (by omega)
    rw[bC,bC];simp only[Xc,s7,false_and,if_false]
  have xs:∀zI c e,cI (St.jE zI 7 c e) X=cI zI X:=fun zI c e=>by
   rcases hX with ⟨rfl,rfl⟩|⟨s,g,l,rfl,rfl,h1,h2⟩
   ·rw[cE (.v _),cE (.v _)]
   ·have s7:(s=7)=False:=eq_false (by omega)
    rw[bC,bC];simp only[Qj,s7,false_and,if_false]
  have n97:((9:Nat)=7)=False:=eq_false (by decide)
  have Kn:∀zI e,K (St.new zI 7 e)=K zI:=fun zI e=>by rw[hK];simp only[Xc,n97,false_and,if_false,xn]
  have Ks:∀zI c e,K (St.jE zI 7 c e)=K zI:=fun zI c e=>by rw[hK];simp only[Qj,n97,false_and,if_false,xs]
  have aBH:∀(zI:St) (d:Option Nat),K zI→aP (aD Tryz.prog) 84 [.agg (aF (O3 t v Q R X tg)),.agg (aV r)] zI d=some { dst:=d,val:=.v (.bool (decide (qL v.ns r)))}:=fun zI d hk=>by
   rw[hK] at hk;exact aQc h p tg lp r zI d (fun j hj=>by rw[Nat.zero_add];exact hk.1 j hj) hk.2.2 (by rw[Nat.zero_add];exact pC hk.2.1 fun l _=>gM l)
  have eX:(O3 t v Q R X tg).cW=X:=rfl
  have eN:(O3 t v Q R X tg).bE=tg:=rfl
  have zR:bJ.due=0:=rfl
  have zT:bJ.tries=0:=rfl
  by_cases ho:qL v.ns r
  case neg =>
   rw[show DG v.ns (p,tg) r=(p,tg) from if_neg ho] at tX;apply oN ((ol L).length-(k+1))
   ·simp only[Z8,seval,hI,bA,q0,hr,Kp,Kn,Ks,K0,aBH,ho,decide_false,hw];rfl
   ·exact⟨k+1,X,p,tg,by simp only[E8,seval,hI],fun j hj=>by simp only[E8,seval];exact hH j hj,fun l hl=>by simp only[E8,seval];exact hHR l hl,hX.imp id fun ⟨s,g,l,e1,e2,h1,h2⟩=>⟨s,g,l,e1,e2,by have s7:(s=7)=False:=eq_false (by omega);simp only[E8,seval,s7,false_and,if_false];exact h1,by simpa only[E8,seval] using h2⟩,tX,by omega,rfl⟩
  rw[show DG v.ns (p,tg) r=(some (ol p++[⟨⟨tg⟩,r,0,0⟩]),IntKind.u64.wrap (tg+1)) from if_pos ho] at tX
  rcases hX with ⟨rfl,rfl⟩|⟨s,g,l,rfl,rfl,h1,h2⟩
  ·apply oN ((ol L).length-(k+1))
   ·simp only[Z8,seval,hI,bA,q0,hr,Kp,Kn,Ks,K0,aBH,ho,decide_true,eX,eN,zR,zT,hw];rfl
   ·exact⟨k+1,.own 27 (st.aO 27),_,_,by simp only[E8,seval,hI]<;>rfl,fun j hj=>by simp only[E8,seval];exact hH j hj,fun l hl=>by simp only[E8,seval];exact hHR l hl,.inr ⟨27,st.aO 27,_,rfl,rfl,by simp only[E8,seval]<;>rfl,.inl ⟨rfl,by simp only[E8,seval]<;>omega⟩⟩,tX,by omega,rfl⟩
  ·rw[xF] at lp2;rcases h2 with ⟨rfl,hg⟩|⟨rfl,rfl,hQ1⟩
   ·have uD:(g=st.aO 27)=False:=eq_false (by omega)
    have hgn':(st.aO 27=g)=False:=eq_false (by omega)
    apply oN ((ol L).length-(k+1))
    ·simp only[Z8,seval,hI,bA,q0,hr,Kp,Kn,Ks,K0,aBH,ho,decide_true,eX,eN,zR,zT,hw,h1,oG _ _ _ _ lp2];rfl
    ·exact⟨k+1,.own 27 (st.aO 27),_,_,by simp only[E8,seval,hI]<;>rfl,fun j hj=>by simp only[E8,seval];exact hH j hj,fun l hl=>by simp only[E8,seval];exact hHR l hl,.inr ⟨27,st.aO 27,_,rfl,rfl,by simp only[E8,seval]<;>rfl,.inl ⟨rfl,by simp only[E8,seval]<;>omega⟩⟩,tX,by omega,rfl⟩
   ·have hR1:nR v Q=nS v+1:=by
     cases Q with
     | none=>exact absurd rfl hQ1
     | some l=>rfl
    apply oN ((ol L).length-(k+1))
    ·simp only[Z8,seval,hI,bA,q0,hr,Kp,Kn,Ks,K0,aBH,ho,decide_true,eX,eN,zR,zT,hw,h1,oG _ _ _ _ lp2];rfl
    ·exact⟨k+1,.own 27 (st.aO 27),_,_,by simp only[E8,seval,hI]<;>rfl,fun j hj=>by have E9:(j=nS v)=False:=eq_false (by omega);simp only[E8,seval,E9,and_false,if_false];exact hH j hj,fun l hl=>by have E9:(nR v Q=nS v)=False:=eq_false (by omega);simp only[E8,seval,E9,and_false,if_false];exact hHR l hl,.inr ⟨27,st.aO 27,_,rfl,rfl,by simp only[E8,seval]<;>rfl,.inl ⟨rfl,by simp only[E8,seval]<;>omega⟩⟩,tX,by omega,rfl⟩
 case start =>
  have hz:cpT t v Q R 9 0=O3 t v Q R (rv 9 (nS v) Q) t.bE:=by unfold cpT O3;rw[Nat.zero_add (nS v)];rfl
  have lt:∀j,j<nS v→j<(JN v Q R).length:=fun j hj=>by unfold JN;rw[List.length_append];unfold nS at hj;omega
  refine⟨0,rv 9 (nS v) Q,Q,t.bE,by simp only[E8,seval,NW,hz]<;>rfl,fun j hj=>?_,fun l hl=>?_, ?_,rfl,by omega,by omega⟩
  ·have lj:=lt j hj
   simp only[E8,seval,NW,true_and,Nat.zero_le,Nat.sub_zero,lj,if_true,aLf v Q R j hj]
  ·have e:=aLh v Q R l hl
   have lj:=(List.getElem?_eq_some_iff.1 e).1
   simp only[E8,seval,NW,true_and,Nat.zero_le,Nat.sub_zero,lj,if_true,e]
  ·cases Q with
   | none=>exact .inl ⟨rfl,rfl⟩
   | some l =>
     have e:=aLg v (some l) R l rfl
     have lj:=(List.getElem?_eq_some_iff.1 e).1
     refine .inr ⟨9,nS v,l,rfl,rfl, ?_,.inr ⟨rfl,rfl,nofun⟩⟩
     simp only[E8,seval,NW,true_and,Nat.zero_le,Nat.sub_zero,lj,if_true,e]
 case rest =>
  rintro e st ⟨rfl,X,hI,hH,hHR,hX⟩
  simp only[Z8,seval,hI];have n4:((9:Nat)=4)=False:=eq_false (by decide)
  refine⟨.agg (aF { t with cW:=ov aA q,bE:=tag }),dY rfl (by simp only[E8,seval]<;>rfl) (cs:=aF (O3 t v Q R X tag)) (by simp only[Z8,seval,hI]<;>rfl) ?ex,rfl⟩
  refine aFq h q tag _ (fun j hj=>by simp only[E8,seval,n4,false_and,if_false];exact hH j hj) ?x1 (pC (fun l hl=>by simp only[E8,seval,n4,false_and,if_false];exact hHR l hl) fun l _=>gM l)
  rcases hX with ⟨rfl,rfl⟩|⟨s,g,l,rfl,rfl,h1,h2⟩
  ·exact cE (.v _)
  ·have s4:(s=4)=False:=eq_false (by omega)
   exact Go.Ab.iY (by simp only[E8,seval,s4,false_and,if_false];exact h1) (gM l)
def p5 (ns:List Node) (l:List Int):Nat→Nat
 | 0=>0
 | k+1=>if (nd ns k).status∈l then p5 ns l k+1 else p5 ns l k
theorem Ul (ns:List Node) (l:List Int):∀k,p5 ns l k≤k
 | 0=>Nat.le_refl _
 | k+1=>by
   have:=Ul ns l k
   simp only[p5];split<;>omega
def Nj (ns:List Node):Nat→List Int
 | 0=>[]
 | k+1=>if (nd ns k).status=0 then Nj ns k++[(k:Int)] else Nj ns k
theorem Um (ns:List Node):∀k,(Nj ns k).length=p5 ns [0] k
 | 0=>rfl
 | k+1=>by
   have:=Um ns k
   simp only[Nj,p5,List.mem_singleton];split<;>simp[this]
theorem c33 (ns:List Node) (hn:(ns.length:Int)<1000000):aD Tryz.prog 33 [.agg (cP ⟨ns⟩)]=some (H3 (Nj ns ns.length)):=by
 rw[cL Tryz.func33 rfl aQf rfl];simp only[ZZ,seval];refine lB (fun n st=>∃k:Nat,(st.env 1=.ptr 1 0 0∧st.heap 1 0=some (.cells (cP ⟨ns⟩))∧st.env 4=.v (.int .i64 k)) ∧
  ((Nj ns k=[]∧st.env 3=.v (.slice none 0 0))∨(Nj ns k≠[]∧∃g,st.env 3=.own 22 g∧g<st.aO 22∧st.heap 22 g=some (.row 3 1 (Nj ns k).length (aJ (Nj ns k)))))∧k≤ns.length∧n=ns.length-k)
  (fun e st=>e=.exit 0∧((Nj ns ns.length=[]∧st.env 3=.v (.slice none 0 0))∨(Nj ns ns.length≠[]∧∃g,st.env 3=.own 22 g∧g<st.aO 22∧st.heap 22 g=some (.row 3 1 (Nj ns ns.length).length (aJ (Nj ns ns.length)))))) ns.length ?step ?start ?rest
 case step =>
  rintro n st ⟨k,hI,h5,hk,Hz⟩
  have hl:=Um ns k
  have WK:=Ul ns [0] k
  have Df:((Nj ns k).length:Int)<1000000:=by omega
  by_cases bA:(k:Int)<ns.length
  ·have hw:IntKind.i64.wrap ((k:Int)+1)=((k+1:Nat):Int):=by rw[Gc _ (by omega) (by omega)];omega
   have q0:(0:Int)≤k:=by omega
   by_cases hc:(nd ns k).status=0
   ·have hb:((nd ns k).status == 0)=true:=by simp[hc]
    have hs:Nj ns (k+1)=Nj ns k++[(k:Int)]:=by simp only[Nj];rw[if_pos hc]
    rcases h5 with ⟨hy,h5⟩|⟨hy,g,h5⟩
    ·rw[hy] at hs;apply oN (ns.length-(k+1))
     ·simp only[ZZ,seval,hI,h5,bA,hw,q0,hb];rfl
     ·exact⟨k+1,by simp only[EV,seval,hI],.inr ⟨by rw[hs];simp,_,by simp only[EV,seval]<;>rfl,(by simp only[EV,seval]<;>omega),(by rw[hs];simp only[EV,seval]<;>rfl)⟩,by omega,rfl⟩
    ·apply oN (ns.length-(k+1))
     ·simp only[ZZ,seval,hI,h5,Df,bA,hw,q0,hb];rfl
     ·exact⟨k+1,by simp only[EV,seval,hI],.inr ⟨by rw[hs];simp,_,by simp only[EV,seval]<;>rfl,(by simp only[EV,seval]<;>omega),(by rw[hs];simp only[EV,seval]<;>rfl)⟩,by omega,rfl⟩
   ·have hb:((nd ns k).status == 0)=false:=by simp[hc]
    have hs:Nj ns (k+1)=Nj ns k:=by simp only[Nj];rw[if_neg hc]
    apply oN (ns.length-(k+1))
    ·simp only[ZZ,seval,hI,bA,hw,q0,hb];rfl
    ·exact⟨k+1,by simp only[EV,seval,hI],by rw[hs];simpa only[EV,seval] using h5,by omega,rfl⟩
  ·obtain rfl:k=ns.length:=by omega
   apply oT (.exit 0)
   ·simp only[ZZ,seval,hI,bA];rfl
   ·exact⟨rfl,by simpa only[EV,seval] using h5⟩
 case start=>exact⟨0,by simp only[EV,seval]<;>rfl,.inl ⟨rfl,(by simp only[EV,seval])⟩,by omega,rfl⟩
 case rest =>
  rintro e st ⟨rfl,⟨hy,h5⟩|⟨hy,g,h5,hg,xO⟩⟩
  ·rw[hy,Mp];simp only[ZZ,seval,h5];exact bX rfl (by simp only[EV,seval]) (.v _)
  ·rw[EM hy];simp only[ZZ,seval,h5,xO];exact rP rfl (by simp only[EV,seval];rfl) (by simp only[EV,seval,xO]) (fG _)
def tP (ns:List Node):List cC:=ns.map fun n=>n.block.root
theorem TC {ns:List Node} {k:Nat} (h:k<ns.length):nd ns (k:Int)=ns[k]:=by
 obtain⟨h1,e⟩:=Ge (ns:=ns) (i:=(k:Int)) (by omega) (by omega)
 exact e
theorem O4 {ns:List Node} {k:Nat} (h:k<ns.length):gx dI (tP ns) (k:Int)=(nd ns (k:Int)).block.root:=by
 have h2:k<(tP ns).length:=by unfold tP;rw[List.length_map];exact h
 unfold gx;rw[TC h];simp[tP,h]
theorem O5 {ns:List Node} (ds:(ns.map fun n=>n.block.root).Nodup) {k:Nat} (h:k<ns.length):aM ns (nd ns (k:Int)).block.root=k:=by
 refine Vj (by omega) (by omega) rfl fun j h0 h1 e=>?_
 obtain⟨m,rfl⟩:=Int.eq_ofNat_of_zero_le h0
 have hm:m<ns.length:=by omega
 rw[TC h,show nd ns (m:Int)=ns[m] from TC hm] at e
 have hp:=(List.pairwise_iff_getElem.1 ds) m k (by simpa using hm) (by simpa using h) (by omega)
 simp only[List.getElem_map] at hp;exact hp e
theorem XR (ns:List Node) (ds:(ns.map fun n=>n.block.root).Nodup) (Q:Option (List Request)) (tag:Int) (h1:1≤tag) (hb:tag+ns.length≤1000000):∀k:Nat,k≤ns.length →
 (ol (Fm ns (Q,tag) ((tP ns).take k)).1).length=(ol Q).length+(Nj ns k).length∧(Fm ns (Q,tag) ((tP ns).take k)).2=tag+(Nj ns k).length
 | 0,_=>⟨rfl,by show tag=tag+((0:Nat):Int);omega⟩
 | k+1,hk=>by
   obtain⟨i1,i2⟩:=XR ns ds Q tag h1 hb k (by omega)
   have hl:(tP ns).length=ns.length:=by unfold tP;rw[List.length_map]
   rw[Wk ns (Q,tag) (tP ns) k (by omega),O4 (by omega)]
   have wl:=Um ns k
   have wl2:=Ul ns [0] k
   obtain⟨P,hP⟩:∃P,Fm ns (Q,tag) ((tP ns).take k)=P:=⟨_,rfl⟩
   rw[hP] at i1 i2 ⊢;have fr:=O5 ds (k:=k) (by omega)
   by_cases c:(nd ns (k:Int)).status=0
   ·have ho:qL ns (nd ns (k:Int)).block.root:=by unfold qL;rw[fr];exact⟨by omega,c⟩
    have es:Nj ns (k+1)=Nj ns k++[(k:Int)]:=by simp only[Nj];rw[if_pos c]
    have eo:DG ns P (nd ns (k:Int)).block.root=_:=if_pos ho
    rw[eo,es,List.length_append,xF,List.length_append];have hw:IntKind.u64.wrap (P.2+1)=P.2+1:=aFi (by omega) (by omega)
    dsimp only
    rw[hw,i1,i2];simp only[List.length_singleton];omega
   ·have ho:¬qL ns (nd ns (k:Int)).block.root:=by unfold qL;rw[fr];exact fun h=>c h.2
    have es:Nj ns (k+1)=Nj ns k:=by simp only[Nj];rw[if_neg c]
    have eo:DG ns P (nd ns (k:Int)).block.root=P:=if_neg ho
    rw[eo,es];exact⟨i1,i2⟩
theorem aQg {t:State} {v:SV} {Q R:Option (List Request)} (h:TD t v Q R) (gN:NEv v) (hB:v.B≠some []) (hL:v.L≠some []) (ht:0<v.ns.length) (hQ:Q≠some []) (hR:R≠some []) (ha:(ol Q).Pairwise fun a b=>a.tagged.tag<b.tagged.tag) (i:Nat) (hi:i<(ol Q).length) (w:eR) (hw:w.tagged.tag=(gx bJ (ol Q) (i:Int)).tagged.tag) :
 aD Tryz.prog 26 [.agg (aF t),.agg (bU w)]=some (.eB [.agg (bM (gx bJ (ol Q) (i:Int))),.agg (aF { t with cW:=ov aA (some ((ol Q).take i++(ol Q).drop (i+1)))}),.v (.int .i64 0)]):=by
 obtain⟨x,hx,⟨hj,_⟩|⟨k,hk,hh,hj,rfl⟩⟩:=c26 h gN hB hL ht hQ hR w
 ·exact absurd hw.symm (hj i hi)
 ·have:k=i:=by
   unfold xC at hh;rw[hw] at hh;have gk:gx bJ (ol Q) (k:Int)=(ol Q)[k]:=by simp[gx,hk]
   have gi:gx bJ (ol Q) (i:Int)=(ol Q)[i]:=by simp[gx,hi]
   rw[gk,gi] at hh;rcases Nat.lt_trichotomy k i with h1|h1|h1
   ·have:=List.pairwise_iff_getElem.1 ha k i hk hi h1;omega
   ·exact h1
   ·have:=List.pairwise_iff_getElem.1 ha i k hi hk h1;omega
  subst this;exact hx
end Go.Ab.Tryz
