/-
  Part 16 of the proof: an evaluator of programs, its soundness, and what functions of this program compute.
-/
import Derived.Test.YtmcjkemalibacaaGreatK15
import Derived.Test.YtmcjkemalibacaaGreatK12
import Derived.Test.YtmcjkemalibacaaGreatK11
import Derived.Test.YtmcjkemalibacaaGreatK14
import Derived.Test.YtmcjkemalibacaaGreatK10
import Derived.Test.YtmcjkemalibacaaGreatK18
set_option linter.all false
set_option maxRecDepth 20000
set_option maxHeartbeats 40000000
namespace Go.Ab.Tryz
open Classical Go.Proofs Go.Ab
def Lo (l:List wZ):List AV:=l.flatMap lC
theorem R6 (x:wZ):xY 190 446 720 (some (1,lC x))=some (none,.row 190 446 [x].length (Lo [x])):=by simp[xY,maxLen,Lo]
theorem R7 (l:List wZ) (x:wZ) (s g:Nat) (h:(l.length:Int)<1000000):xJ 190 446 720 (some (.row 190 446 l.length (Lo l))) s g (some (1,lC x))=some (some (s,g),.row 190 446 (l++[x]).length (Lo (l++[x]))):=by
 simp only[xJ];rw[if_pos ⟨by simp,trivial,trivial,by omega,by simp only[maxLen];omega⟩]
 simp[Lo,List.flatMap_append]
theorem Qx (l:List wZ) (h:∀y∈l,pE y):∀x∈Lo l,Flat x:=by
 intro x hx;obtain⟨y,hm,hy⟩:=List.mem_flatMap.1 hx
 have hf:=(h y hm).flat
 cases hf with
 | agg _ hc=>exact hc x hy
theorem aEX (n:Nat) (l:List wZ) (h:∀y∈l,pE y):jH (some (.row 190 446 n (Lo l)))=some (.sl n (Lo l)):=by
 unfold jH;simp only;rw[if_pos (Qx l h)]
theorem x75 (l:List Int) (hl:(l.length:Int)≤9223372036854775807):∃r,aC Tryz.prog 75 [.sl l.length (aJ l)]=some r∧∃(c:Config) (X:AV) (t:State) (v:SV) (Q R:Option (List Request)),r=.eN [.agg (bU c),X,.agg (aF t)]∧Flat (.agg (bU c))∧Flat X∧TI t v Q R 24000 6144:=by
 obtain⟨y1,hy1,c,b,rfl,hc⟩:=aLM l hl
 have fc:Flat (.agg (bU c)):=(yI c).2 (by rw[hc.jN];exact dR _)
 have aCm:∀(st:St) (d:Option Nat),fF (aC Tryz.prog) 101 _ st d=_:=fun st d=>Hh (cV (Qi l)) hy1 fc
 obtain⟨y2,hy2,zH,last,y,rfl,fy⟩:=aLX hc
 have T0:=(TI.new hc).emit zH last
 have R9:=kx hy2 (cV fc) (.eN _ (nD T0.td.flat fy (.v _)))
 have k16:=Nc l hl 16 (by omega) (by omega)
 have k17:=Nc l hl 17 (by omega) (by omega)
 have n0:=(Nb l hl 16 (by omega) (by omega)).2.1
 obtain⟨n1,n2⟩:=eG (n:=25) n0 (by omega)
 obtain⟨N,hN⟩:∃N,(FM l 16).tmod 25=N:=⟨_,rfl⟩
 rw[hN] at n1 n2;rw[cG Tryz.func75 rfl aQO (by kernel_rfl) rfl]
 have body:∀(M:Int),0≤M→M≤24→∀st:St,(st.env 0=.sl l.length (aJ l)∧st.env 2=.ptr 2 0 0∧st.heap 2 0=some (.cells (bU nJ))∧st.env 4=.ptr 4 0 0∧st.heap 4 0=some (.cells (aF jR))∧st.env 5=.ptr 5 0 0∧st.heap 5 0=some (.cells (bU c))∧st.env 6=.ptr 6 0 0∧st.heap 6 0=some (.cells (aF { B7 c b with zH:=zH,last:=last }))∧st.env 9=.v (.slice none 0 0)∧st.env 10=.v (.int .i64 M)∧st.env 11=.v (.int .i64 0))→∃e st',wM Tryz.prog true (kX (Tryz.f75.body.getD .skip)) st=some (e,st')∧(e=.exit 0∧∃(t:State) (v:SV) (Q R:Option (List Request)),(st'.env 2=.ptr 2 0 0∧st'.heap 2 0=some (.cells (bU nJ))∧st'.env 4=.ptr 4 0 0∧st'.heap 4 0=some (.cells (aF jR))∧st'.env 5=.ptr 5 0 0∧st'.heap 5 0=some (.cells (bU c))∧st'.env 6=.ptr 6 0 0∧st'.heap 6 0=some (.cells (aF t)))∧(st'.env 9=.v (.slice none 0 0)∨∃(L:List wZ) (g:Nat),st'.env 9=.own 48 g∧st'.heap 48 g=some (.row 190 446 L.length (Lo L))∧∀y∈L,pE y)∧TI t v Q R 24000 6144):=by
  intro M hM0 hM1 st hs;suffices key:∃r,cN (wM Tryz.prog true (kX (Tryz.f75.body.getD .skip)) st) some=some r∧(r.1=.exit 0∧∃(t:State) (v:SV) (Q R:Option (List Request)),(r.2.env 2=.ptr 2 0 0∧r.2.heap 2 0=some (.cells (bU nJ))∧r.2.env 4=.ptr 4 0 0∧r.2.heap 4 0=some (.cells (aF jR))∧r.2.env 5=.ptr 5 0 0∧r.2.heap 5 0=some (.cells (bU c))∧r.2.env 6=.ptr 6 0 0∧r.2.heap 6 0=some (.cells (aF t)))∧(r.2.env 9=.v (.slice none 0 0)∨∃(L:List wZ) (g:Nat),r.2.env 9=.own 48 g∧r.2.heap 48 g=some (.row 190 446 L.length (Lo L))∧∀y∈L,pE y)∧TI t v Q R 24000 6144) by
   obtain⟨r,h,hq⟩:=key
   cases hx:wM Tryz.prog true (kX (Tryz.f75.body.getD .skip)) st with
   | none=>rw[hx] at h;cases h
   | some y=>rw[hx] at h;simp only[cZ,Option.some.injEq] at h;subst h;exact⟨y.1,y.2,rfl,hq⟩
  simp only[Tryz.f75,Option.getD_some,kX];refine lJ (fun m st=>∃(k:Nat) (t:State) (v:SV) (Q R:Option (List Request)),(st.env 0=.sl l.length (aJ l)∧st.env 2=.ptr 2 0 0∧st.heap 2 0=some (.cells (bU nJ))∧st.env 4=.ptr 4 0 0∧st.heap 4 0=some (.cells (aF jR))∧st.env 5=.ptr 5 0 0∧st.heap 5 0=some (.cells (bU c))∧st.env 6=.ptr 6 0 0∧st.heap 6 0=some (.cells (aF t))∧st.env 10=.v (.int .i64 M)∧st.env 11=.v (.int .i64 k))∧(st.env 9=.v (.slice none 0 0)∨∃(L:List wZ) (g:Nat),(st.env 9=.own 48 g∧st.heap 48 g=some (.row 190 446 L.length (Lo L)))∧g<st.aP 48∧(∀y∈L,pE y)∧L.length≤k)∧TI t v Q R (1000 * k) (256 * k)∧(k:Int)≤M∧m=(M-k).toNat)
   (fun e st=>e=.exit 0∧∃(t:State) (v:SV) (Q R:Option (List Request)),(st.env 2=.ptr 2 0 0∧st.heap 2 0=some (.cells (bU nJ))∧st.env 4=.ptr 4 0 0∧st.heap 4 0=some (.cells (aF jR))∧st.env 5=.ptr 5 0 0∧st.heap 5 0=some (.cells (bU c))∧st.env 6=.ptr 6 0 0∧st.heap 6 0=some (.cells (aF t)))∧(st.env 9=.v (.slice none 0 0)∨∃(L:List wZ) (g:Nat),st.env 9=.own 48 g∧st.heap 48 g=some (.row 190 446 L.length (Lo L))∧∀y∈L,pE y)∧TI t v Q R 24000 6144) M.toNat ?step ?start ?rest
  case start=>exact⟨0,_,_,_,_,⟨hs.1,hs.2.1,hs.2.2.1,hs.2.2.2.1,hs.2.2.2.2.1,hs.2.2.2.2.2.1,hs.2.2.2.2.2.2.1,hs.2.2.2.2.2.2.2.1,hs.2.2.2.2.2.2.2.2.1,hs.2.2.2.2.2.2.2.2.2.2.1,hs.2.2.2.2.2.2.2.2.2.2.2⟩,.inl hs.2.2.2.2.2.2.2.2.2.1,T0,by omega,by omega⟩
  case rest=>exact fun e st h=>⟨_,rfl,h⟩
  case step =>
   clear hs
   rintro m st ⟨k,t,v,Q,R,hI,hX,T,hk,hm⟩
   by_cases bA:(k:Int)<M
   case neg =>
    have hX':st.env 9=.v (.slice none 0 0)∨∃(L:List wZ) (g:Nat),st.env 9=.own 48 g∧st.heap 48 g=some (.row 190 446 L.length (Lo L))∧∀y∈L,pE y:=hX.imp id fun ⟨L,g,h1,_,h3,_⟩=>⟨L,g,h1.1,h1.2,h3⟩
    apply FY (.exit 0)
    ·simp only[ZG,seval,Bool.false_and,Prod.mk.injEq,Xl,hI,bA];rfl
    ·exact⟨rfl,t,v,Q,R,by simp only[E8,seval,hI],by simpa only[E8,seval] using hX',T.mono (by omega) (by omega) (by omega) (by omega)⟩
   have hw:IntKind.i64.wrap ((k:Int)+1)=((k+1:Nat):Int):=by rw[pR _ (by omega) (by omega)];omega
   obtain⟨j,hj⟩:∃j:Int,j=18+(k:Int):=⟨_,rfl⟩
   have hwj:IntKind.i64.wrap (18+(k:Int))=j:=by rw[pR _ (by omega) (by omega),hj]
   obtain⟨n,hn⟩:∃n:Int,n=10+(k:Int):=⟨_,rfl⟩
   have hwn:IntKind.i64.wrap (10+(k:Int))=n:=by rw[pR _ (by omega) (by omega),hn]
   have kj:=Nc l hl j (by omega) (by omega)
   have j0:=(Nb l hl j (by omega) (by omega)).2.1
   have op:∀z:Int,0≤z→∃(y:wZ) (t':State) (w:AV) (e:Int) (v':SV) (Q' R':Option (List Request)),(∀(st:St) (d:Option Nat),aL (aC Tryz.prog) 146 [.agg (aF t),.v (.int .i64 n),.v (.int .i64 z)] st d=some { dst:=d,val:=.agg (lC y)})∧(∀(st:St) (d:Option Nat),aL (aC Tryz.prog) 147 [.agg (aF t),.agg (lC y)] st d=some { dst:=d,val:=.eN [.agg (aF t'),w,.v (.int .i64 e)]})∧pE y∧TI t' v' Q' R' (1000 * ((k+1:Nat):Int)) (256 * ((k+1:Nat):Int)):=by
    intro z hz;obtain⟨y3,hy3,o,rfl,ho,hr⟩:=aQA T.td T.gi T.rg T.jN (fun r hr=>by obtain⟨h1,h2,_⟩:=T.tq.all r hr;have:=T.nt;exact⟨by omega,by omega⟩) n z hz
    have hp:o.kind=2→Pr o.block.root:=fun h2=>by
     rcases hr h2 with h|⟨a,ha,h⟩
     ·rw[h];exact aEW (by omega) (by omega)
     ·rw[h];exact T.rg.rt a ha
    obtain⟨y4,hy4,t',w,e,v',Q',R',rfl,fw,T'⟩:=aQM T o ho hp (by omega) (by omega)
    exact⟨o,t',w,e,v',Q',R',kx hy3 (nD T.td.flat (.v _) (.v _)) ho.flat,kx hy4 (bH T.td.flat ho.flat) (.eN _ (nD T'.td.flat fw (.v _))),ho,T'.mono (by omega) (by omega) (by omega) (by omega)⟩
   by_cases k0:(k:Int)=0
   ·obtain⟨o,t',w,e,v',Q',R',S3,S4,ho,T'⟩:=op 0 (by omega)
    rcases hX with hX|⟨L,g,hX,hg,hL,hLk⟩
    ·apply Ct ((M-((k+1:Nat):Int)).toNat)
     ·simp only[ZG,seval,Bool.false_and,Prod.mk.injEq,Xl,hI,hX,bA,hwj,kj,bt k0,hwn,S3,R6,S4,eB,hw];rfl
     ·exact⟨k+1,t',v',Q',R',by simp only[E8,seval,hI],.inr ⟨[o],_,⟨by simp only[E8,seval]<;>rfl,by simp only[E8,seval]<;>rfl⟩,by simp only[E8,seval]<;>omega,(fun y hy=>by rw[List.mem_singleton] at hy;rw[hy];exact ho),by simp⟩,T',by omega,rfl⟩
    ·have nL:(L.length:Int)<1000000:=by omega
     have vL:(g=st.aP 48)=False:=eq_false (by omega)
     apply Ct ((M-((k+1:Nat):Int)).toNat)
     ·simp only[ZG,seval,Bool.false_and,Prod.mk.injEq,Xl,hI,hX,vL,bA,hwj,kj,bt k0,hwn,S3,R7 _ _ _ _ nL,S4,eB,hw];rfl
     ·exact⟨k+1,t',v',Q',R',by simp only[E8,seval,hI],.inr ⟨L++[o],_,⟨by simp only[E8,seval]<;>rfl,by simp only[E8,seval]<;>rfl⟩,by simp only[E8,seval]<;>omega,(fun y hy=>(List.mem_append.1 hy).elim (hL y) fun h=>by rw[List.mem_singleton] at h;rw[h];exact ho),by rw[List.length_append,List.length_cons,List.length_nil];omega⟩,T',by omega,rfl⟩
   ·obtain⟨o,t',w,e,v',Q',R',S3,S4,ho,T'⟩:=op (FM l j) j0
    rcases hX with hX|⟨L,g,hX,hg,hL,hLk⟩
    ·apply Ct ((M-((k+1:Nat):Int)).toNat)
     ·simp only[ZG,seval,Bool.false_and,Prod.mk.injEq,Xl,hI,hX,bA,hwj,kj,bf k0,hwn,S3,R6,S4,eB,hw];rfl
     ·exact⟨k+1,t',v',Q',R',by simp only[E8,seval,hI],.inr ⟨[o],_,⟨by simp only[E8,seval]<;>rfl,by simp only[E8,seval]<;>rfl⟩,by simp only[E8,seval]<;>omega,(fun y hy=>by rw[List.mem_singleton] at hy;rw[hy];exact ho),by simp⟩,T',by omega,rfl⟩
    ·have nL:(L.length:Int)<1000000:=by omega
     have vL:(g=st.aP 48)=False:=eq_false (by omega)
     apply Ct ((M-((k+1:Nat):Int)).toNat)
     ·simp only[ZG,seval,Bool.false_and,Prod.mk.injEq,Xl,hI,hX,vL,bA,hwj,kj,bf k0,hwn,S3,R7 _ _ _ _ nL,S4,eB,hw];rfl
     ·exact⟨k+1,t',v',Q',R',by simp only[E8,seval,hI],.inr ⟨L++[o],_,⟨by simp only[E8,seval]<;>rfl,by simp only[E8,seval]<;>rfl⟩,by simp only[E8,seval]<;>omega,(fun y hy=>(List.mem_append.1 hy).elim (hL y) fun h=>by rw[List.mem_singleton] at h;rw[h];exact ho),by rw[List.length_append,List.length_cons,List.length_nil];omega⟩,T',by omega,rfl⟩
 by_cases g1:0<(FM l 17).tmod 4
 ·simp only[ZG,seval,Bool.false_and,Prod.mk.injEq,Xl,aCm,R9,eB,k16,hN,k17,g1];refine Je (a:=kX (Tryz.f75.body.getD .skip)) (fun e st'=>e=.exit 0∧∃(t:State) (v:SV) (Q R:Option (List Request)),(st'.env 2=.ptr 2 0 0∧st'.heap 2 0=some (.cells (bU nJ))∧st'.env 4=.ptr 4 0 0∧st'.heap 4 0=some (.cells (aF jR))∧st'.env 5=.ptr 5 0 0∧st'.heap 5 0=some (.cells (bU c))∧st'.env 6=.ptr 6 0 0∧st'.heap 6 0=some (.cells (aF t)))∧(st'.env 9=.v (.slice none 0 0)∨∃(L:List wZ) (g:Nat),st'.env 9=.own 48 g∧st'.heap 48 g=some (.row 190 446 L.length (Lo L))∧∀y∈L,pE y)∧TI t v Q R 24000 6144) (body 24 (by omega) (by omega) _ (by simp only[E8,seval]<;>rfl)) ?rest
  rintro e st ⟨rfl,t,v,Q,R,hI,hX|⟨L,g,hX,hh,hL⟩,T⟩
  ·have ft:=T.td.flat
   simp only[ZG,seval,Bool.false_and,Prod.mk.injEq,Xl,hI,hX];exact⟨_,gP rfl (by simp only[bV,Z8,seval,hI]<;>rfl) (by simp only[bV,Z8,seval,hX]<;>rfl) (by simp only[bV,Z8,seval,hI]<;>rfl) (dP fc) (dP (.v _)) (dP ft),c,_,t,v,Q,R,rfl,fc,.v _,T⟩
  ·have ft:=T.td.flat
   have ex:=aEX L.length L hL
   simp only[ZG,seval,Bool.false_and,Prod.mk.injEq,Xl,hI,hX,hh];exact⟨_,gP rfl (by simp only[bV,Z8,seval,hI]<;>rfl) (by simp only[bV,Z8,seval,hX]<;>rfl) (by simp only[bV,Z8,seval,hI]<;>rfl) (dP fc) (by simp only[Z8,seval,hh,ex]<;>rfl) (dP ft),c,_,t,v,Q,R,rfl,fc,.sl _ _ (Qx L hL),T⟩
 ·simp only[ZG,seval,Bool.false_and,Prod.mk.injEq,Xl,aCm,R9,eB,k16,hN,k17,g1];refine Je (a:=kX (Tryz.f75.body.getD .skip)) (fun e st'=>e=.exit 0∧∃(t:State) (v:SV) (Q R:Option (List Request)),(st'.env 2=.ptr 2 0 0∧st'.heap 2 0=some (.cells (bU nJ))∧st'.env 4=.ptr 4 0 0∧st'.heap 4 0=some (.cells (aF jR))∧st'.env 5=.ptr 5 0 0∧st'.heap 5 0=some (.cells (bU c))∧st'.env 6=.ptr 6 0 0∧st'.heap 6 0=some (.cells (aF t)))∧(st'.env 9=.v (.slice none 0 0)∨∃(L:List wZ) (g:Nat),st'.env 9=.own 48 g∧st'.heap 48 g=some (.row 190 446 L.length (Lo L))∧∀y∈L,pE y)∧TI t v Q R 24000 6144) (body N (by omega) (by omega) _ (by simp only[E8,seval]<;>rfl)) ?ME
  rintro e st ⟨rfl,t,v,Q,R,hI,hX|⟨L,g,hX,hh,hL⟩,T⟩
  ·have ft:=T.td.flat
   simp only[ZG,seval,Bool.false_and,Prod.mk.injEq,Xl,hI,hX];exact⟨_,gP rfl (by simp only[bV,Z8,seval,hI]<;>rfl) (by simp only[bV,Z8,seval,hX]<;>rfl) (by simp only[bV,Z8,seval,hI]<;>rfl) (dP fc) (dP (.v _)) (dP ft),c,_,t,v,Q,R,rfl,fc,.v _,T⟩
  ·have ft:=T.td.flat
   have ex:=aEX L.length L hL
   simp only[ZG,seval,Bool.false_and,Prod.mk.injEq,Xl,hI,hX,hh];exact⟨_,gP rfl (by simp only[bV,Z8,seval,hI]<;>rfl) (by simp only[bV,Z8,seval,hX]<;>rfl) (by simp only[bV,Z8,seval,hI]<;>rfl) (dP fc) (by simp only[Z8,seval,hh,ex]<;>rfl) (dP ft),c,_,t,v,Q,R,rfl,fc,.sl _ _ (Qx L hL),T⟩
theorem x24 (l:List Int) (hl:(l.length:Int)≤9223372036854775807):∃(t:State) (v:SV) (Q R:Option (List Request)),aC Tryz.prog 24 [.sl l.length (aJ l)]=some (.agg (aF t))∧TI t v Q R 24000 6144:=by
 suffices h:∃r,aC Tryz.prog 24 [.sl l.length (aJ l)]=some r∧∃(t:State) (v:SV) (Q R:Option (List Request)),r=.agg (aF t)∧TI t v Q R 24000 6144 by
  obtain⟨r,h,t,v,Q,R,rfl,T⟩:=h
  exact⟨t,v,Q,R,h,T⟩
 obtain⟨y,hy,c,X,t,v,Q,R,rfl,fc,fX,T⟩:=x75 l hl
 have ft:=T.td.flat
 have k75:=kx hy (cV (Qi l)) (.eN _ (nD fc fX ft))
 rw[cL Tryz.func24 rfl aQP rfl];simp only[Z8,seval,k75,eB];exact⟨_,fL rfl (by simp only[E8,seval,ft]<;>rfl) (by simp only[Z8,seval,ft]<;>rfl) (by simp only[dW,and_self,ft]),t,v,Q,R,rfl,T⟩
end Go.Ab.Tryz
namespace Go.Ab.Tryz
open Classical Go.Proofs Go.Ab
end Go.Ab.Tryz
namespace Go.Ab.Tryz
open Classical Go.Proofs Go.Ab
theorem EJ (n:Node) (r:cK):aN [n] r=if n.block.root=r then 0 else -1:=by
 unfold aN;by_cases h:n.block.root=r<;>simp[List.findIdx?_cons,h]
theorem aEY {a b:Int} (a0:0≤a) (a1:a<256) (b0:0≤b) (b1:b<256) (h:a≠b):mkRoot a≠mkRoot b:=fun e=>by
 have e1:IntKind.u8.wrap a=IntKind.u8.wrap b:=by rw[← tG,← tG,e]
 rw[Hk a0 a1,Hk b0 b1] at e1;exact h e1
theorem GI.now {s:aO} {v:SV} {q:Int} (h:GI s v q) (n:Int):GI { s with now:=n } v q :=
 ⟨⟨h.sd.jN,h.sd.dQ,h.sd.gZ,h.sd.early,h.sd.bX,h.sd.tree,h.sd.tables,h.sd.eV,h.sd.tB,h.sd.nB,h.sd.nL,h.sd.nQ,h.sd.nE,h.sd.nO,h.sd.nT,h.sd.nn⟩,h.up,h.LD,h.pos,h.nl,h.TM,h.qS,h.MC,h.nB,h.nO,h.MD,h.nE,h.RX,h.nT,h.TN,h.nQ,h.N6,h.hU⟩
theorem RG.R4 {s:aO} {v:SV} (r:RG s v) (hs:1≤s.cFg.qS) {n:Int} (h0:s.now≤n) (h1:n≤1099511627776):RG { s with now:=n } v :=
 ⟨⟨by have:=r.now.1;show 0≤n;omega,h1⟩,r.j,r.f,fun a ha=>⟨(r.nd a ha).1,by have:=(r.nd a ha).2;show a.block.slot≤n;omega⟩,r.or,r.rt,⟨r.fe.1,Int.le_trans r.fe.2 (show Dv s s.now≤Dv s n from MT hs r.now.1 h0 (by omega))⟩,r.ds,r.tb,r.ne⟩
theorem S5 {c:Config} {b:List Int} (h:Nw c b):aN (Tv c b).ns c.eC=0∧aN (Tv c b).ns (mkRoot 9)=-1:=by
 have e:(Tv c b).ns=[⟨GH c,-1,1⟩]:=rfl
 rw[e,EJ,EJ,if_pos (show (GH c).root=c.eC from rfl),if_neg (show ¬(GH c).root=mkRoot 9 by show ¬c.eC=mkRoot 9;rw[h.gen];exact aEY (by omega) (by omega) (by omega) (by omega) (by omega))]
 exact⟨rfl,rfl⟩
end Go.Ab.Tryz
namespace Go.Ab.Tryz
open Classical Go.Proofs Go.Ab
open Classical Go.Proofs Go.Ab
end Go.Ab.Tryz
namespace Go.Ab.Tryz
open Classical Go.Proofs Go.Ab
def uo {α:Type} (e sz:Nat) (c:List α→List AV):Option (List α)→AV
 | none=>.v (.slice none 0 0)
 | some l=>.uniq e sz l.length (c l)
def rl {α:Type} (e sz:Nat) (c:List α→List AV):Option (List α)→List nM
 | none=>[]
 | some l=>[.row e sz l.length (c l)]
def rv {α:Type} (d k:Nat):Option (List α)→AV
 | none=>.v (.slice none 0 0)
 | some _=>.own d k
def KO (d:Nat) (es:List nM):Option (Nat × List nM):=if es=[] then none else some (d,es)
theorem S6 (st:St) (d:Nat):st.news d []=st:=by
 unfold St.news;cases st with
 | mk env heap aP =>
   simp only[List.length_nil,Nat.not_lt_zero,and_false,if_false,Nat.add_zero,St.mk.injEq,true_and];funext s
   split
   ·rename_i h;rw[h]
   ·rfl
theorem B8 (x:Option Nat) (v:AV) (d:Nat) (es:List nM) (st:St):({ dst:=x,val:=v,new:=KO d es }:rC).apply st=(st.news d es).put x v:=by
 unfold KO;by_cases h:es=[]
 ·rw[if_pos h,h,S6];rfl
 ·rw[if_neg h];rfl
theorem S7 (st:St) (t d:Nat) (es:List nM):(st.news d es).env t=st.env t:=rfl
theorem S8 (st:St) (t d:Nat) (es:List nM):(st.news d es).aP t=if t=d then st.aP d+es.length else st.aP t:=rfl
theorem yN (st:St) (s g d:Nat) (es:List nM):(st.news d es).heap s g=if s=d∧st.aP d≤g∧g-st.aP d<es.length then es[g-st.aP d]? else st.heap s g:=rfl
theorem Bf {α:Type} {call:Nat→List AV→Option AV} {g e sz d:Nat} {args:List AV} {c:List α→List AV} {L:Option (List α)} {st:St} (hf:∀x∈args,Flat x) (h:call g args=some (uo e sz c L)) :
 aL call g args st (some d)=some { dst:=some d,val:=rv d (st.aP d) L,new:=KO d (rl e sz c L)}:=by
 cases L with
 | none =>
   simp only[aL,if_pos hf,h,cZ,uo,jA,if_pos (Flat.v _),rv,rl,KO];rfl
 | some l=>rw[jF hf h];simp only[rv,rl,KO,List.cons_ne_nil,if_false]
theorem iT {α:Type} {st:St} {d k e sz:Nat} {c:List α→List AV} {L:Option (List α)} (hh:∀l,L=some l→st.heap d k=some (.row e sz l.length (c l))) (hf:∀l,L=some l→∀x∈c l,Flat x):kN st (rv d k L)=some (uo e sz c L):=by
 cases L with
 | none=>exact if_pos (Flat.v _)
 | some l =>
   have hn:¬Flat (.own d k):=by intro h;cases h
   simp only[rv,uo,kN,if_neg hn,hh l rfl,if_pos (hf l rfl)]
theorem ND {α:Type} {c:List α→List AV} {z:Nat} (hc:∀l,(c l).length=l.length * z) (hz:0<z) {l:List α} (h:l≠[]):c l≠[]:=by
 intro he;have h1:=hc l
 rw[he] at h1;have h2:0<l.length:=List.length_pos_iff.mpr h
 have:=Nat.mul_pos h2 hz
 simp only[List.length_nil] at h1;omega
theorem aQQ (L:Option (List Int)) (h:L≠some []) (hn:((ol L).length:Int)<1000000):aC Tryz.prog 160 [ov bD L]=some (uo 23 1 bD L):=by
 cases L with
 | none =>
   unfold ov;rw[cL Tryz.func160 rfl aEZ rfl];simp only[Z8,seval];exact bW rfl (by simp only[E8,seval]<;>rfl) (.v _)
 | some l =>
   have hl:l≠[]:=fun h2=>h (by rw[h2])
   have gW:bD l≠[]:=ND (z:=1) (fun l=>by simp[Qy]) (by omega) hl
   have ha:=fun s g=>Iu (e:=23) (sz:=1) (by_:=8) (s:=s) (g:=g) (n:=l.length) (cs:=bD l) (by simp[Qy]) (by simp only[ol,Option.getD_some] at hn;omega) (by simp only[ol,Option.getD_some] at hn;unfold maxLen;omega)
   unfold ov;rw[cL Tryz.func160 rfl aEZ rfl];simp only[Z8,seval,gW,ha];exact sP rfl (by simp only[E8,seval];rfl) (by simp only[E8,seval]) (iE _)
theorem aLZ (L:Option (List Int)) (h:L≠some []) (hn:((ol L).length:Int)<1000000) (st:St) (d:Nat):aL (aC Tryz.prog) 160 [ov bD L] st (some d)=some { dst:=some d,val:=rv d (st.aP d) L,new:=KO d (rl 23 1 bD L)}:=Bf (cV (dR L)) (aQQ L h hn)
theorem aQR (L:Option (List kS)) (h:L≠some []) (hn:((ol L).length:Int)<1000000):aC Tryz.prog 190 [ov cU L]=some (uo 100 34 cU L):=by
 cases L with
 | none =>
   unfold ov;rw[cL Tryz.func190 rfl aE0 rfl];simp only[Z8,seval];exact bW rfl (by simp only[E8,seval]<;>rfl) (.v _)
 | some l =>
   have hl:l≠[]:=fun h2=>h (by rw[h2])
   have gW:cU l≠[]:=ND (z:=34) (fun l=>by simp) (by omega) hl
   have ha:=fun s g=>Iu (e:=100) (sz:=34) (by_:=48) (s:=s) (g:=g) (n:=l.length) (cs:=cU l) (by simp) (by simp only[ol,Option.getD_some] at hn;omega) (by simp only[ol,Option.getD_some] at hn;unfold maxLen;omega)
   unfold ov;rw[cL Tryz.func190 rfl aE0 rfl];simp only[Z8,seval,gW,ha];exact sP rfl (by simp only[E8,seval];rfl) (by simp only[E8,seval]) (nH _)
theorem aQS (L:Option (List kS)) (h:L≠some []) (hn:((ol L).length:Int)<1000000) (st:St) (d:Nat):aL (aC Tryz.prog) 190 [ov cU L] st (some d)=some { dst:=some d,val:=rv d (st.aP d) L,new:=KO d (rl 100 34 cU L)}:=Bf (cV (qQ L)) (aQR L h hn)
theorem aQT (L:Option (List Int)) (h:L≠some []) (hn:((ol L).length:Int)<1000000):aC Tryz.prog 191 [ov aJ L]=some (uo 3 1 aJ L):=by
 cases L with
 | none =>
   unfold ov;rw[cL Tryz.func191 rfl aE1 rfl];simp only[Z8,seval];exact bW rfl (by simp only[E8,seval]<;>rfl) (.v _)
 | some l =>
   have hl:l≠[]:=fun h2=>h (by rw[h2])
   have gW:aJ l≠[]:=ND (z:=1) (fun l=>by simp[Jf]) (by omega) hl
   have ha:=fun s g=>Iu (e:=3) (sz:=1) (by_:=8) (s:=s) (g:=g) (n:=l.length) (cs:=aJ l) (by simp[Jf]) (by simp only[ol,Option.getD_some] at hn;omega) (by simp only[ol,Option.getD_some] at hn;unfold maxLen;omega)
   unfold ov;rw[cL Tryz.func191 rfl aE1 rfl];simp only[Z8,seval,gW,ha];exact sP rfl (by simp only[E8,seval];rfl) (by simp only[E8,seval]) (gF _)
theorem aL0 (L:Option (List Int)) (h:L≠some []) (hn:((ol L).length:Int)<1000000) (st:St) (d:Nat):aL (aC Tryz.prog) 191 [ov aJ L] st (some d)=some { dst:=some d,val:=rv d (st.aP d) L,new:=KO d (rl 3 1 aJ L)}:=Bf (cV (bS L)) (aQT L h hn)
theorem aQU (L:Option (List Block)) (h:L≠some []) (hn:((ol L).length:Int)<1000000):aC Tryz.prog 164 [ov aH L]=some (uo 74 238 aH L):=by
 cases L with
 | none =>
   unfold ov;rw[cL Tryz.func164 rfl aE2 rfl];simp only[Z8,seval];exact bW rfl (by simp only[E8,seval]<;>rfl) (.v _)
 | some l =>
   have hl:l≠[]:=fun h2=>h (by rw[h2])
   have gW:aH l≠[]:=ND (z:=238) (fun l=>by simp) (by omega) hl
   have ha:=fun s g=>Iu (e:=74) (sz:=238) (by_:=336) (s:=s) (g:=g) (n:=l.length) (cs:=aH l) (by simp) (by simp only[ol,Option.getD_some] at hn;omega) (by simp only[ol,Option.getD_some] at hn;unfold maxLen;omega)
   unfold ov;rw[cL Tryz.func164 rfl aE2 rfl];simp only[Z8,seval,gW,ha];exact sP rfl (by simp only[E8,seval];rfl) (by simp only[E8,seval]) (pB _)
theorem aQV (L:Option (List Block)) (h:L≠some []) (hn:((ol L).length:Int)<1000000) (st:St) (d:Nat):aL (aC Tryz.prog) 164 [ov aH L] st (some d)=some { dst:=some d,val:=rv d (st.aP d) L,new:=KO d (rl 74 238 aH L)}:=Bf (cV (Ek L)) (aQU L h hn)
theorem aQW (L:Option (List Request)) (h:L≠some []) (hn:((ol L).length:Int)<1000000):aC Tryz.prog 148 [ov aA L]=some (uo 63 35 aA L):=by
 cases L with
 | none =>
   unfold ov;rw[cL Tryz.func148 rfl aE3 rfl];simp only[Z8,seval];exact bW rfl (by simp only[E8,seval]<;>rfl) (.v _)
 | some l =>
   have hl:l≠[]:=fun h2=>h (by rw[h2])
   have gW:aA l≠[]:=ND (z:=35) (fun l=>by simp) (by omega) hl
   have ha:=fun s g=>Iu (e:=63) (sz:=35) (by_:=56) (s:=s) (g:=g) (n:=l.length) (cs:=aA l) (by simp) (by simp only[ol,Option.getD_some] at hn;omega) (by simp only[ol,Option.getD_some] at hn;unfold maxLen;omega)
   unfold ov;rw[cL Tryz.func148 rfl aE3 rfl];simp only[Z8,seval,gW,ha];exact sP rfl (by simp only[E8,seval];rfl) (by simp only[E8,seval]) (dX _)
theorem aL1 (L:Option (List Request)) (h:L≠some []) (hn:((ol L).length:Int)<1000000) (st:St) (d:Nat):aL (aC Tryz.prog) 148 [ov aA L] st (some d)=some { dst:=some d,val:=rv d (st.aP d) L,new:=KO d (rl 63 35 aA L)}:=Bf (cV (cH L)) (aQW L h hn)
theorem pO {α:Type} {st:St} {d k e sz:Nat} {c:List α→List AV} {L:Option (List α)} (hh:∀l,L=some l→st.heap d k=some (.row e sz l.length (c l))) (hf:∀l,L=some l→∀x∈c l,Flat x):cA st (rv d k L)=some (ov c L):=by
 cases L with
 | none=>exact if_pos (Flat.v _)
 | some l =>
   have hn:¬Flat (.own d k):=by intro h;cases h
   simp only[rv,ov,cA,if_neg hn,hh l rfl,if_pos (hf l rfl)]
theorem S9 {α:Type} (d k:Nat) (L:Option (List α)):(rv d k L).cells=[rv d k L]:=by cases L<;>rfl
theorem aCn {α:Type} (d k:Nat) (L:Option (List α)):(rv d k L).jD=true:=by cases L<;>rfl
def NW:=aj (aj (aj @B8 @S7) (aj @S8 @yN)) (aj @S9 @aCn)
theorem aQX (a:rX) (V:Option (List Int)) (ha:a.eY=ov aJ V) (h:V≠some []) (hn:((ol V).length:Int)<1000000):aC Tryz.prog 163 [.agg (iB a)]=some (.agg (iB a)):=by
 rw[cL Tryz.func163 rfl aL2 rfl];simp only[Z8,seval,ha,aL0 V h hn,NW];refine eH rfl (by simp only[E8,seval,NW]<;>rfl) (cs:=iB { a with eY:=rv 5 0 V }) (by simp only[Z8,seval,NW]<;>rfl) ?_
 rw[bR,lZ,pO (e:=3) (sz:=1) (c:=aJ) (L:=V) ?h (fun l _=>gF l),cZ,cZ,← ha]
 case h =>
  intro l hl;subst hl;simp only[E8,seval,yN,rl,List.length_cons,Nat.lt_add_left_iff_pos,Nat.zero_lt_succ,if_true]
end Go.Ab.Tryz
namespace Go.Ab
open Classical
theorem Oa [Ext] {P:Program} {call:Nat→List AV→Option AV} {ops:Array Oper} {d:Option Nat} {T:Nat} {pos:String} {eP:Array Edge} {st:St} (t:Nat) (args:Array Operand) (tH:Array Nat) (g:Nat) (h:st.env t=.v (.func (.func g) #[] #[])):cF P call ops ⟨d,.call ⟨.value (.tmp t),args,tH⟩,T,pos,eP,none⟩ st=cN (aL call g (args.toList.map st.ev) st d) fun e=>some (e.apply st):=by
 rw[dT];simp only[dI,iJ,oA,St.ev,h,FJ,and_self,if_true,List.append_nil];cases aL call g (args.toList.map st.ev) st d<;>rfl
end Go.Ab
namespace Go.Ab.Tryz
open Classical Go.Proofs Go.Ab
theorem aQY (a:Table) (V:Option (List Int)) (ha:a.jN=ov bD V) (h:V≠some []) (hn:((ol V).length:Int)<1000000):aC Tryz.prog 194 [.agg (cI a)]=some (.agg (cI a)):=by
 rw[cL Tryz.func194 rfl aL3 rfl];simp only[Z8,seval,ha,aLZ V h hn,NW];refine eH rfl (by simp only[E8,seval,NW]<;>rfl) (cs:=cI { a with jN:=rv 5 0 V }) (by simp only[Z8,seval,NW]<;>rfl) ?_
 rw[bR,tD,pO (e:=23) (sz:=1) (c:=bD) (L:=V) ?h (fun l _=>iE l),cZ,cZ,← ha]
 case h =>
  intro l hl;subst hl;simp only[E8,seval,yN,rl,List.length_cons,Nat.lt_add_left_iff_pos,Nat.zero_lt_succ,if_true]
theorem YW {α:Type} (z:α) (l:List α) (k:Nat) (h:k<l.length):l.take k++[gx z l (k:Int)]=l.take (k+1):=by
 rw[List.take_succ_eq_append_getElem h];congr 2
 simp[gx,h]
theorem aQZ (E:Option (List rX)) (h:E≠some []) (hn:((ol E).length:Int)<1000000) (hE:∀a∈ol E,∃V,a.eY=ov aJ (some V)∧V≠[]) (hA:∀a∈ol E,Cq a) :
 aC Tryz.prog 162 [ov dG E,.v (.func (.func 163) #[] #[])]=some (uo 87 67 dG E):=by
 have iX:∀y∈ol E,Flat y.eY:=fun y m=>(hA y m).fl
 have kg:∀k:Nat,k<(ol E).length→∀(st:St) (d:Option Nat),aL (aC Tryz.prog) 163 [.agg (iB (gx Jo (ol E) (k:Int)))] st d=some { dst:=d,val:=.agg (iB (gx Jo (ol E) (k:Int)))}:=by
  intro k hk st d;have hm:gx Jo (ol E) (k:Int)∈ol E:=by
   have:gx Jo (ol E) (k:Int)=(ol E)[k]:=by simp[gx,hk]
   rw[this];exact List.getElem_mem hk
  obtain⟨V,hV,hV2⟩:=hE _ hm
  obtain⟨V',hV',Gl⟩:=hA _ hm
  have hfa:Flat (.agg (iB (gx Jo (ol E) (k:Int)))):=(zC _).2 (hA _ hm).fl
  have e0:((ol (some V)).length:Int)<1000000:=by
   have h0:ov aJ (some V)=ov aJ V':=by rw[← hV,← hV']
   cases V' with
   | none=>cases h0
   | some W =>
     simp only[ov,AV.sl.injEq] at h0;simp only[ol,Option.getD_some] at Gl ⊢
     omega
  exact kx (aQX _ (some V) hV (by simpa using hV2) e0) (cV hfa) hfa st d
 have hu:([ov dG E,.v (.func (.func 163) #[] #[])]:List AV).any tR=false:=by cases E<;>rfl
 rw[cL Tryz.func162 rfl aL5 hu];simp only[Z8,seval];refine lV (fun m st=>∃k:Nat,(st.env 8=ov dG E∧st.env 9=.v (.int .i64 (ol E).length)∧st.env 10=.v (.int .i64 k)∧st.env 1=.v (.func (.func 163) #[] #[]))∧((k=0∧st.env 5=.v (.slice none 0 0))∨(0<k∧∃j,st.env 5=.own 19 j∧st.heap 19 j=some (.row 87 67 ((ol E).take k).length (dG ((ol E).take k)))))∧k≤(ol E).length∧m=(ol E).length-k)
  (fun e st=>e=.exit 0∧((ol E=[]∧st.env 5=.v (.slice none 0 0))∨(ol E≠[]∧∃j,st.env 5=.own 19 j∧st.heap 19 j=some (.row 87 67 (ol E).length (dG (ol E)))))) (ol E).length ?step ?start ?rest
 case step =>
  rintro m st ⟨k,hI,hR,hk,hm⟩
  by_cases bA:(k:Int)<(ol E).length
  ·have q0:(0:Int)≤k:=by omega
   have hw:IntKind.i64.wrap ((k:Int)+1)=((k+1:Nat):Int):=by rw[pR _ (by omega) (by omega)];omega
   have ht:=YW Jo (ol E) k (by omega)
   have kk:=kg k (by omega)
   rcases hR with ⟨uQ,h5⟩|⟨uQ,j,h5,h6⟩
   ·have ht':[gx Jo (ol E) (k:Int)]=(ol E).take (k+1):=by rw[← ht,show (ol E).take k=[] by rw[uQ,List.take_zero],List.nil_append]
    apply oN ((ol E).length-(k+1))
    ·simp only[Z8,seval,hI,h5,bA,q0,kk,Oa 15 _ _ 163,GS,hw];rfl
    ·exact⟨k+1,⟨by simp only[E8,seval,hI],by simp only[E8,seval,hI],by simp only[E8,seval],by simp only[E8,seval,hI]⟩,.inr ⟨by omega,_,by simp only[E8,seval]<;>rfl,by rw[← ht'];simp only[E8,seval]<;>rfl⟩,by omega,rfl⟩
   ·have ao:=fun s g=>Vb ((ol E).take k) (gx Jo (ol E) (k:Int)) s g (by rw[List.length_take];omega)
    apply oN ((ol E).length-(k+1))
    ·simp only[Z8,seval,hI,h5,h6,bA,q0,kk,Oa 15 _ _ 163,ao,hw];rfl
    ·exact⟨k+1,⟨by simp only[E8,seval,hI],by simp only[E8,seval,hI],by simp only[E8,seval],by simp only[E8,seval,hI]⟩,.inr ⟨by omega,_,by simp only[E8,seval]<;>rfl,by rw[← ht];simp only[E8,seval]<;>rfl⟩,by omega,rfl⟩
  ·have Eh:k=(ol E).length:=by omega
   have hF:(ol E=[]∧st.env 5=.v (.slice none 0 0))∨(ol E≠[]∧∃j,st.env 5=.own 19 j∧st.heap 19 j=some (.row 87 67 (ol E).length (dG (ol E)))):=by
    rcases hR with ⟨uQ,h5⟩|⟨uQ,j,h5,h6⟩
    ·exact .inl ⟨List.eq_nil_of_length_eq_zero (by omega),h5⟩
    ·exact .inr ⟨by intro h0;rw[h0] at Eh;simp at Eh;omega,j,h5,by rw[h6,Eh,List.take_length]⟩
   apply oT (.exit 0)
   ·simp only[Z8,seval,hI,bA];rfl
   ·exact⟨rfl,by simp only[E8,seval];exact hF⟩
 case start=>exact⟨0,by simp only[E8,seval]<;>exact⟨rfl,rfl,rfl,rfl⟩,.inl ⟨rfl,by simp only[E8,seval]<;>rfl⟩,by omega,by omega⟩
 case rest =>
  rintro e st ⟨rfl,hR⟩
  rcases hR with ⟨h0,h5⟩|⟨h0,j,h5,h6⟩
  ·simp only[Z8,seval,h5];cases E with
   | none=>exact bW rfl (by simp only[E8,seval]<;>rfl) (.v _)
   | some l=>exact absurd (show (some l:Option (List rX))=some [] by rw[show l=[] from h0]) h
  ·simp only[Z8,seval,h5];cases E with
   | none=>exact absurd rfl h0
   | some l=>exact sP rfl (by simp only[E8,seval];rfl) (by simp only[E8,seval];exact h6) (sT _ iX)
theorem aQ2 (E:Option (List rX)) (h:E≠some []) (hn:((ol E).length:Int)<1000000) (hE:∀a∈ol E,∃V,a.eY=ov aJ (some V)∧V≠[]) (hA:∀a∈ol E,Cq a) (st:St) (d:Nat) :
 aL (aC Tryz.prog) 162 [ov dG E,.v (.func (.func 163) #[] #[])] st (some d)=some { dst:=some d,val:=rv d (st.aP d) E,new:=KO d (rl 87 67 dG E)} :=
 Bf (fun x m=>by
  rcases List.mem_cons.1 m with rfl|m
  ·exact Wl E fun y m=>(hA y m).fl
  ·rw[List.mem_singleton.1 m];exact .v _) (aQZ E h hn hE hA)
theorem aQ3 (E:Option (List Table)) (h:E≠some []) (hn:((ol E).length:Int)<1000000) (hE:∀a∈ol E,∃V,a.jN=ov bD (some V)∧V≠[]) (hA:∀a∈ol E,sC a) :
 aC Tryz.prog 193 [ov aT E,.v (.func (.func 194) #[] #[])]=some (uo 118 34 aT E):=by
 have iX:∀y∈ol E,Flat y.jN:=fun y m=>(hA y m).fl
 have kg:∀k:Nat,k<(ol E).length→∀(st:St) (d:Option Nat),aL (aC Tryz.prog) 194 [.agg (cI (gx iW (ol E) (k:Int)))] st d=some { dst:=d,val:=.agg (cI (gx iW (ol E) (k:Int)))}:=by
  intro k hk st d;have hm:gx iW (ol E) (k:Int)∈ol E:=by
   have:gx iW (ol E) (k:Int)=(ol E)[k]:=by simp[gx,hk]
   rw[this];exact List.getElem_mem hk
  obtain⟨V,hV,hV2⟩:=hE _ hm
  obtain⟨V',hV',Gl⟩:=hA _ hm
  have hfa:Flat (.agg (cI (gx iW (ol E) (k:Int)))):=(kK _).2 (hA _ hm).fl
  have e0:((ol (some V)).length:Int)<1000000:=by
   have h0:ov bD (some V)=ov bD V':=by rw[← hV,← hV']
   cases V' with
   | none=>cases h0
   | some W =>
     simp only[ov,AV.sl.injEq] at h0;simp only[ol,Option.getD_some] at Gl ⊢
     omega
  exact kx (aQY _ (some V) hV (by simpa using hV2) e0) (cV hfa) hfa st d
 have hu:([ov aT E,.v (.func (.func 194) #[] #[])]:List AV).any tR=false:=by cases E<;>rfl
 rw[cL Tryz.func193 rfl aL6 hu];simp only[Z8,seval];refine lV (fun m st=>∃k:Nat,(st.env 8=ov aT E∧st.env 9=.v (.int .i64 (ol E).length)∧st.env 10=.v (.int .i64 k)∧st.env 1=.v (.func (.func 194) #[] #[]))∧((k=0∧st.env 5=.v (.slice none 0 0))∨(0<k∧∃j,st.env 5=.own 19 j∧st.heap 19 j=some (.row 118 34 ((ol E).take k).length (aT ((ol E).take k)))))∧k≤(ol E).length∧m=(ol E).length-k)
  (fun e st=>e=.exit 0∧((ol E=[]∧st.env 5=.v (.slice none 0 0))∨(ol E≠[]∧∃j,st.env 5=.own 19 j∧st.heap 19 j=some (.row 118 34 (ol E).length (aT (ol E)))))) (ol E).length ?step ?start ?rest
 case step =>
  rintro m st ⟨k,hI,hR,hk,hm⟩
  by_cases bA:(k:Int)<(ol E).length
  ·have q0:(0:Int)≤k:=by omega
   have hw:IntKind.i64.wrap ((k:Int)+1)=((k+1:Nat):Int):=by rw[pR _ (by omega) (by omega)];omega
   have ht:=YW iW (ol E) k (by omega)
   have kk:=kg k (by omega)
   rcases hR with ⟨uQ,h5⟩|⟨uQ,j,h5,h6⟩
   ·have ht':[gx iW (ol E) (k:Int)]=(ol E).take (k+1):=by rw[← ht,show (ol E).take k=[] by rw[uQ,List.take_zero],List.nil_append]
    apply oN ((ol E).length-(k+1))
    ·simp only[Z8,seval,hI,h5,bA,q0,kk,Oa 15 _ _ 194,EK,hw];rfl
    ·exact⟨k+1,⟨by simp only[E8,seval,hI],by simp only[E8,seval,hI],by simp only[E8,seval],by simp only[E8,seval,hI]⟩,.inr ⟨by omega,_,by simp only[E8,seval]<;>rfl,by rw[← ht'];simp only[E8,seval]<;>rfl⟩,by omega,rfl⟩
   ·have ao:=fun s g=>Qp ((ol E).take k) (gx iW (ol E) (k:Int)) s g (by rw[List.length_take];omega)
    apply oN ((ol E).length-(k+1))
    ·simp only[Z8,seval,hI,h5,h6,bA,q0,kk,Oa 15 _ _ 194,ao,hw];rfl
    ·exact⟨k+1,⟨by simp only[E8,seval,hI],by simp only[E8,seval,hI],by simp only[E8,seval],by simp only[E8,seval,hI]⟩,.inr ⟨by omega,_,by simp only[E8,seval]<;>rfl,by rw[← ht];simp only[E8,seval]<;>rfl⟩,by omega,rfl⟩
  ·have Eh:k=(ol E).length:=by omega
   have hF:(ol E=[]∧st.env 5=.v (.slice none 0 0))∨(ol E≠[]∧∃j,st.env 5=.own 19 j∧st.heap 19 j=some (.row 118 34 (ol E).length (aT (ol E)))):=by
    rcases hR with ⟨uQ,h5⟩|⟨uQ,j,h5,h6⟩
    ·exact .inl ⟨List.eq_nil_of_length_eq_zero (by omega),h5⟩
    ·exact .inr ⟨by intro h0;rw[h0] at Eh;simp at Eh;omega,j,h5,by rw[h6,Eh,List.take_length]⟩
   apply oT (.exit 0)
   ·simp only[Z8,seval,hI,bA];rfl
   ·exact⟨rfl,by simp only[E8,seval];exact hF⟩
 case start=>exact⟨0,by simp only[E8,seval]<;>exact⟨rfl,rfl,rfl,rfl⟩,.inl ⟨rfl,by simp only[E8,seval]<;>rfl⟩,by omega,by omega⟩
 case rest =>
  rintro e st ⟨rfl,hR⟩
  rcases hR with ⟨h0,h5⟩|⟨h0,j,h5,h6⟩
  ·simp only[Z8,seval,h5];cases E with
   | none=>exact bW rfl (by simp only[E8,seval]<;>rfl) (.v _)
   | some l=>exact absurd (show (some l:Option (List Table))=some [] by rw[show l=[] from h0]) h
  ·simp only[Z8,seval,h5];cases E with
   | none=>exact absurd rfl h0
   | some l=>exact sP rfl (by simp only[E8,seval];rfl) (by simp only[E8,seval];exact h6) (lY _ iX)
theorem aQ4 (E:Option (List Table)) (h:E≠some []) (hn:((ol E).length:Int)<1000000) (hE:∀a∈ol E,∃V,a.jN=ov bD (some V)∧V≠[]) (hA:∀a∈ol E,sC a) (st:St) (d:Nat) :
 aL (aC Tryz.prog) 193 [ov aT E,.v (.func (.func 194) #[] #[])] st (some d)=some { dst:=some d,val:=rv d (st.aP d) E,new:=KO d (rl 118 34 aT E)} :=
 Bf (fun x m=>by
  rcases List.mem_cons.1 m with rfl|m
  ·exact lX E fun y m=>(hA y m).fl
  ·rw[List.mem_singleton.1 m];exact .v _) (aQ3 E h hn hE hA)
theorem Xm (f:Nat→AV→AV × List nM) (c:Nat) (xs ys:List AV):pU f c (xs++ys)=((pU f c xs).1++(pU f (c+(pU f c xs).2.length) ys).1,(pU f c xs).2++(pU f (c+(pU f c xs).2.length) ys).2):=by
 induction xs generalizing c with
 | nil=>simp[pU]
 | cons x xs ih=>simp only[List.cons_append,pU,ih,List.length_append,Nat.add_assoc,List.append_assoc]
theorem Jg (d c:Nat) {x:AV} (h:Flat x):xP d c x=(x,[]):=by cases h<;>rfl
theorem rO (d c:Nat) {xs:List AV} (h:∀x∈xs,Flat x):pU (xP d) c xs=(xs,[]):=by
 induction xs generalizing c with
 | nil=>rfl
 | cons x xs ih=>simp only[pU,Jg d c (h x (by simp)),List.length_nil,Nat.add_zero,ih c fun y m=>h y (by simp[m]),List.nil_append]
theorem Vd {α:Type} (d c e sz:Nat) (cs:List α→List AV) (L:Option (List α)):pU (xP d) c [uo e sz cs L]=([rv d c L],rl e sz cs L):=by cases L<;>rfl
theorem HA {call:Nat→List AV→Option AV} {g d:Nat} {args cs:List AV} {st:St} (hf:∀x∈args,Flat x) (h:call g args=some (.agg cs)) (hn:Flat (.agg cs)∨(pU (xP d) (st.aP d) cs).2≠[]) :
 aL call g args st (some d)=some { dst:=some d,val:=.agg (pU (xP d) (st.aP d) cs).1,new:=KO d (pU (xP d) (st.aP d) cs).2 }:=by
 unfold aL;rw[if_pos hf,h,cZ];unfold jA;by_cases hF:Flat (.agg cs)
 ·have hc:∀x∈cs,Flat x:=by cases hF with|agg _ h=>exact h
  rw[if_pos hF,rO d _ hc];rfl
 ·rw[if_neg hF];have h2:=hn.resolve_left hF
  simp only[KO,if_neg h2];rfl
noncomputable def Tw (st:St) (cs:List AV):Option (List AV):=cC (cs.map (kN st))
theorem Xn (st:St) (a b:List AV):Tw st (a++b)=cN (Tw st a) fun x=>cN (Tw st b) fun y=>some (x++y):=by
 unfold Tw;induction a with
 | nil=>simp[cC,cN];cases cC (b.map (kN st))<;>rfl
 | cons c a ih =>
   simp only[List.cons_append,List.map_cons];cases kN st c with
   | none=>rfl
   | some c' =>
     simp only[cC,ih];cases cC (a.map (kN st))<;>simp[cN]<;>cases cC (b.map (kN st))<;>rfl
theorem tI {st:St} {cs:List AV} (h:∀c∈cs,Flat c):Tw st cs=some cs:=by
 unfold Tw;induction cs with
 | nil=>rfl
 | cons c cs ih =>
   have h1:kN st c=some c:=if_pos (h c (by simp))
   simp only[List.map_cons,h1,cC,ih fun x hx=>h x (by simp[hx]),Option.map_some]
theorem qW {st:St} {x y:AV} (h:kN st x=some y):Tw st [x]=some [y]:=by simp only[Tw,List.map_cons,List.map_nil,h,cC,Option.map_some]
theorem Qz {st:St} {cs ys:List AV} (h:Tw st cs=some ys):Ci st (.agg cs)=some (.agg ys):=by
 show (cC (cs.map (kN st))).map AV.agg=_
 rw[show cC (cs.map (kN st))=some ys from h];rfl
theorem NF {x:AV} (h:Flat x):gJ x=[]:=by cases h<;>rfl
theorem nK {cs:List AV} (h:∀c∈cs,Flat c):cs.flatMap gJ=[]:=by
 induction cs with
 | nil=>rfl
 | cons c cs ih=>rw[List.flatMap_cons,NF (h c (by simp)),ih fun x hx=>h x (by simp[hx]),List.nil_append]
theorem EL {α:Type} (d k:Nat) (L:Option (List α)):gJ (rv d k L)=if L.isSome then [(d,k)] else []:=by cases L<;>rfl
theorem T3 (st:St) (g:Nat):st.ev (.func g)=.v (.func (.func g) #[] #[]):=rfl
theorem aQ5 (T:Option (List Table)) (h:T≠some []) (hn:((ol T).length:Int)<1000000) (hE:∀a∈ol T,∃V,a.jN=ov bD (some V)∧V≠[]) (hA:∀a∈ol T,sC a):aC Tryz.prog 166 [ov aT T]=some (uo 118 34 aT T):=by
 have iX:∀y∈ol T,Flat y.jN:=fun y m=>(hA y m).fl
 rw[cL Tryz.func166 rfl aL7 (by cases T<;>rfl)]
 simp only[Z8,seval,T3,aQ4 T h hn hE hA,NW];cases T with
 | none=>exact bW rfl (by simp only[E8,seval]<;>rfl) (.v _)
 | some l=>exact sP rfl (by simp only[E8,seval]<;>rfl) (by simp only[E8,seval,yN,rl,List.length_cons,Nat.lt_add_left_iff_pos,Nat.zero_lt_succ,if_true]<;>rfl) (lY _ iX)
theorem aQ6 (T:Option (List Table)) (h:T≠some []) (hn:((ol T).length:Int)<1000000) (hE:∀a∈ol T,∃V,a.jN=ov bD (some V)∧V≠[]) (hA:∀a∈ol T,sC a) (st:St) (d:Nat) :
 aL (aC Tryz.prog) 166 [ov aT T] st (some d)=some { dst:=some d,val:=rv d (st.aP d) T,new:=KO d (rl 118 34 aT T)}:=Bf (cV (lX T fun y m=>(hA y m).fl)) (aQ5 T h hn hE hA)
theorem aQ7 (L:Option (List kS)) (Q:Option (List Int)) (h1:L≠some []) (h2:Q≠some []) (n1:((ol L).length:Int)<1000000) (n2:((ol Q).length:Int)<1000000) :
 aC Tryz.prog 161 [.agg (eX ⟨ov cU L,ov aJ Q⟩)]=some (.agg (eX ⟨uo 100 34 cU L,uo 3 1 aJ Q⟩)):=by
 rw[cL Tryz.func161 rfl aL8 rfl];simp only[Z8,seval,aQS L h1 n1,aL0 Q h2 n2,NW];refine Ni rfl (.inl rfl) rfl (x:=.agg (eX ⟨rv 5 0 L,rv 8 0 Q⟩)) (by simp only[bV,Z8,seval,NW]) ?_ (Qz ?_)
 ·simp only[lW,jE,eX,List.flatMap_append,List.flatMap_cons,List.flatMap_nil,List.append_nil,EL];cases L<;>cases Q<;>simp
 ·unfold eX;rw[Xn,qW (iT (e:=100) (sz:=34) (c:=cU) ?_ fun l _=>nH l),cZ,qW (iT (e:=3) (sz:=1) (c:=aJ) ?_ fun l _=>gF l),cZ]
  ·intro l hl;subst hl;simp only[E8,seval,yN,rl,List.length_cons,Nat.lt_add_left_iff_pos,Nat.zero_lt_succ,if_true]<;>rfl
  ·intro l hl;subst hl;simp only[E8,seval,yN,rl,List.length_cons,Nat.lt_add_left_iff_pos,Nat.zero_lt_succ,if_true]<;>rfl
theorem Xo (d c:Nat) (L:Option (List kS)) (Q:Option (List Int)):pU (xP d) c (eX ⟨uo 100 34 cU L,uo 3 1 aJ Q⟩)=(eX ⟨rv d c L,rv d (c+(rl 100 34 cU L).length) Q⟩,rl 100 34 cU L++rl 3 1 aJ Q):=by
 unfold eX;rw[Xm,Vd,Vd]
theorem aQ8 (L:Option (List kS)) (Q:Option (List Int)) (h1:L≠some []) (h2:Q≠some []) (n1:((ol L).length:Int)<1000000) (n2:((ol Q).length:Int)<1000000) (st:St) (d:Nat) :
 aL (aC Tryz.prog) 161 [.agg (eX ⟨ov cU L,ov aJ Q⟩)] st (some d)=some { dst:=some d,val:=.agg (eX ⟨rv d (st.aP d) L,rv d (st.aP d+(rl 100 34 cU L).length) Q⟩),new:=KO d (rl 100 34 cU L++rl 3 1 aJ Q)}:=by
 rw[HA (cV (.agg _ (qL _ (qQ L) (bS Q)))) (aQ7 L Q h1 h2 n1 n2) ?_,Xo];rw[Xo];cases L with
 | some l=>exact .inr (by simp[rl])
 | none =>
   cases Q with
   | some q=>exact .inr (by simp[rl])
   | none=>exact .inl (.agg _ (qL _ (.v _) (.v _)))
def SC (s:aO) (b l q e o n t:AV):aO:={ s with cFg:={ s.cFg with jN:=b },gG:=⟨l,q⟩,dV:=⟨e,o⟩,tree:=⟨n⟩,tables:=t }
theorem Xp {st:St} (s:aO) {b l q e o n t b' l' q' e' o' n' t':AV} (h1:kN st b=some b') (h2:kN st l=some l') (h3:kN st q=some q') (h4:kN st e=some e') (h5:kN st o=some o') (h6:kN st n=some n') (h7:kN st t=some t') :
 Tw st (aB (SC s b l q e o n t))=some (aB (SC s b' l' q' e' o' n' t')):=by
 simp only[SC,aB,bU,eX,jO,mM,Xn,qW h1,qW h2,qW h3,qW h4,qW h5,qW h6,qW h7,tI (uC _),tI (eD _),tI (iO _),tI (dJ _),tI (lG _),cZ]
theorem Ke (s:aO) (b l q e o n t:AV):(aB (SC s b l q e o n t)).flatMap gJ=gJ b++(gJ l++(gJ q++(gJ e++(gJ o++(gJ n++gJ t))))):=by
 simp only[SC,aB,bU,eX,jO,mM,List.flatMap_append,List.flatMap_cons,List.flatMap_nil,List.append_nil,nK (uC _),nK (eD _),nK (iO _),nK (dJ _),nK (lG _),List.nil_append,List.append_assoc]
theorem xZ {α:Type} (e sz:Nat) (c:List α→List AV) (l:List α):rl e sz c (some l)=[.row e sz l.length (c l)]:=rfl
theorem aQ9 {s:aO} {v:SV} (hs:SD s v) (gW:NEv v) (hB:v.B≠some []) (hL:v.L≠some []) (ht:0<v.ns.length) :
 aC Tryz.prog 109 [.agg (aB s)]=some (.agg (aB (SC s (uo 23 1 bD v.B) (uo 100 34 cU v.L) (uo 3 1 aJ v.Q) (uo 87 67 dG v.E) (uo 74 238 aH v.O) (.uniq 76 240 v.ns.length (cD v.ns)) (uo 118 34 aT v.T)))):=by
 have hv:s.gG=⟨ov cU v.L,ov aJ v.Q⟩:=by
  have h1:=hs.dQ
  have h2:=hs.gZ
  cases hc:s.gG with
  | mk a b=>rw[hc] at h1 h2;simp only at h1 h2;rw[h1,h2]
 rw[cL Tryz.func109 rfl aL9 rfl];simp only[Z8,seval,hs.jN,hv,hs.early,hs.bX,hs.tree,hs.tables,T3,NW,aLZ v.B hB hs.nB,aQ8 v.L v.Q hL gW.q hs.nL hs.nQ,aQ2 v.E gW.e hs.nE gW.ea hs.eV,aQV v.O gW.o hs.nO,aOA v.ns ht hs.nn,aQ6 v.T gW.t hs.nT gW.tb hs.tB];refine Ni rfl (.inl rfl) rfl (x:=.agg (aB (SC s (rv 6 0 v.B) (rv 11 0 v.L) (rv 11 (rl 100 34 cU v.L).length v.Q) (rv 16 0 v.E) (rv 22 0 v.O) (.own 27 0) (rv 31 0 v.T)))) ?x1 ?x2 (Qz (Xp s ?b1 ?l1 ?q1 ?e1 ?o1 ?n1 ?t1))
 case x1=>simp only[bV,Z8,seval,NW,SC]
 case x2 =>
  show ((aB _).flatMap gJ).Nodup
  rw[Ke];simp only[EL,show ∀a b,gJ (.own a b)=[(a,b)] from fun _ _=>rfl]
  cases v.B<;>cases hvl:v.L<;>cases v.Q<;>cases v.E<;>cases v.O<;>cases v.T<;>simp[rl]
 case b1=>exact iT (fun l hl=>by simp only[E8,seval,NW,hl,xZ,List.length_cons,List.length_nil,Nat.lt_add_left_iff_pos,Nat.zero_lt_succ,if_true]<;>rfl) fun l _=>iE l
 case l1 =>
  refine iT (fun l hl=>?_) fun l _=>nH l
  simp only[E8,seval,NW,hl,xZ];simp
 case q1 =>
  refine iT (fun l hl=>?_) fun l _=>gF l
  simp only[E8,seval,NW,hl,xZ];simp
 case e1=>exact iT (fun l hl=>by simp only[E8,seval,NW,hl,xZ,List.length_cons,List.length_nil,Nat.lt_add_left_iff_pos,Nat.zero_lt_succ,if_true]<;>rfl) fun l hl=>sT l fun y m=>(hs.eV y (by rw[hl];exact m)).fl
 case o1=>exact iT (fun l hl=>by simp only[E8,seval,NW,hl,xZ,List.length_cons,List.length_nil,Nat.lt_add_left_iff_pos,Nat.zero_lt_succ,if_true]<;>rfl) fun l _=>pB l
 case n1=>exact iT (L:=some v.ns) (fun l hl=>by cases hl;simp only[E8,seval,NW,xZ,List.length_cons,List.length_nil,Nat.lt_add_left_iff_pos,Nat.zero_lt_succ,if_true]<;>rfl) fun l _=>kD l
 case t1=>exact iT (fun l hl=>by simp only[E8,seval,NW,hl,xZ,List.length_cons,List.length_nil,Nat.lt_add_left_iff_pos,Nat.zero_lt_succ,if_true]<;>rfl) fun l hl=>lY l fun y m=>(hs.tB y (by rw[hl];exact m)).fl
theorem T4 (d c e sz n:Nat) (cs:List AV):pU (xP d) c [.uniq e sz n cs]=([.own d c],[.row e sz n cs]):=rfl
def Dy (v:SV):List nM:=rl 23 1 bD v.B++(rl 100 34 cU v.L++(rl 3 1 aJ v.Q++(rl 87 67 dG v.E++(rl 74 238 aH v.O++([.row 76 240 v.ns.length (cD v.ns)]++rl 118 34 aT v.T)))))
def nB (v:SV):Nat:=(rl 23 1 bD v.B).length
def nL (v:SV):Nat:=nB v+(rl 100 34 cU v.L).length
def nQ (v:SV):Nat:=nL v+(rl 3 1 aJ v.Q).length
def nE (v:SV):Nat:=nQ v+(rl 87 67 dG v.E).length
def nO (v:SV):Nat:=nE v+(rl 74 238 aH v.O).length
def SE (s:aO) (v:SV) (d c:Nat):aO:=SC s (rv d c v.B) (rv d (c+nB v) v.L) (rv d (c+nL v) v.Q) (rv d (c+nQ v) v.E) (rv d (c+nE v) v.O) (.own d (c+nO v)) (rv d (c+nO v+1) v.T)
theorem Lp (s:aO) (v:SV) (d c:Nat):pU (xP d) c (aB (SC s (uo 23 1 bD v.B) (uo 100 34 cU v.L) (uo 3 1 aJ v.Q) (uo 87 67 dG v.E) (uo 74 238 aH v.O) (.uniq 76 240 v.ns.length (cD v.ns)) (uo 118 34 aT v.T)))=(aB (SE s v d c),Dy v):=by
 simp only[SC,SE,aB,bU,eX,jO,mM,Xm,Vd,T4,rO d _ (uC _),rO d _ (eD _),rO d _ (iO _),rO d _ (dJ _),rO d _ (lG _),List.nil_append,List.length_nil,Nat.add_zero,List.append_assoc,List.length_append,List.length_cons,Dy,nO,nE,nQ,nL,nB,Nat.add_assoc,List.append_nil]
theorem aRa {s:aO} {v:SV} (hs:SD s v) (gW:NEv v) (hB:v.B≠some []) (hL:v.L≠some []) (ht:0<v.ns.length) (st:St) (d:Nat) :
 aL (aC Tryz.prog) 109 [.agg (aB s)] st (some d)=some { dst:=some d,val:=.agg (aB (SE s v d (st.aP d))),new:=some (d,Dy v)}:=by
 have h0:Dy v≠[]:=by simp[Dy]
 rw[HA (cV hs.flat) (aQ9 hs gW hB hL ht) (by rw[Lp];exact .inr h0),Lp]
 simp only[KO,if_neg h0]
theorem T5 (x:Option Nat) (y:AV) (d:Nat) (v:SV) (st:St):({ dst:=x,val:=y,new:=some (d,Dy v)}:rC).apply st=(st.news d (Dy v)).put x y:=rfl
theorem YX {α:Type} (d k:Nat) (l:List α):rv d k (some l)=.own d k:=rfl
theorem mA {α:Type} (a b:List α) (n i:Nat) (h:n=a.length+i):(a++b)[n]? = b[i]?:=by
 rw[h,List.getElem?_append_right (by omega)]
 congr 1
 omega
theorem aMa (v:SV) (l:List Int) (h:v.B=some l):(Dy v)[0]? = some (.row 23 1 l.length (bD l)):=by simp[Dy,h,rl]
theorem aMb (v:SV) (l:List kS) (h:v.L=some l):(Dy v)[nB v]? = some (.row 100 34 l.length (cU l)):=by
 unfold Dy;rw[mA _ _ _ 0 (by simp[nB]),h];rfl
theorem aMc (v:SV) (l:List Int) (h:v.Q=some l):(Dy v)[nL v]? = some (.row 3 1 l.length (aJ l)):=by
 unfold Dy;rw[mA _ _ _ _ (show nL v=_+_ from rfl),mA _ _ _ 0 (by simp),h];rfl
theorem aMd (v:SV) (l:List rX) (h:v.E=some l):(Dy v)[nQ v]? = some (.row 87 67 l.length (dG l)):=by
 unfold Dy;rw[mA _ _ _ ((rl 100 34 cU v.L).length+(rl 3 1 aJ v.Q).length) (by simp[nQ,nL,nB,Nat.add_assoc]),mA _ _ _ _ rfl,mA _ _ _ 0 (by simp),h];rfl
theorem aMe (v:SV) (l:List Block) (h:v.O=some l):(Dy v)[nE v]? = some (.row 74 238 l.length (aH l)):=by
 unfold Dy;rw[mA _ _ _ ((rl 100 34 cU v.L).length+((rl 3 1 aJ v.Q).length+(rl 87 67 dG v.E).length)) (by simp[nE,nQ,nL,nB,Nat.add_assoc]),mA _ _ _ _ rfl,mA _ _ _ _ rfl,mA _ _ _ 0 (by simp),h];rfl
theorem aMf (v:SV):(Dy v)[nO v]? = some (.row 76 240 v.ns.length (cD v.ns)):=by
 unfold Dy;rw[mA _ _ _ ((rl 100 34 cU v.L).length+((rl 3 1 aJ v.Q).length+((rl 87 67 dG v.E).length+(rl 74 238 aH v.O).length))) (by simp[nO,nE,nQ,nL,nB,Nat.add_assoc]),mA _ _ _ _ rfl,mA _ _ _ _ rfl,mA _ _ _ _ rfl,mA _ _ _ 0 (by simp)];rfl
theorem aMg (v:SV) (l:List Table) (h:v.T=some l):(Dy v)[nO v+1]? = some (.row 118 34 l.length (aT l)):=by
 unfold Dy;rw[mA _ _ _ ((rl 100 34 cU v.L).length+((rl 3 1 aJ v.Q).length+((rl 87 67 dG v.E).length+((rl 74 238 aH v.O).length+1)))) (by simp[nO,nE,nQ,nL,nB,Nat.add_assoc]),mA _ _ _ _ rfl,mA _ _ _ _ rfl,mA _ _ _ _ rfl,mA _ _ _ _ rfl,mA _ _ _ 0 (by simp),h];rfl
theorem YY (x:Int):(x != x)=false:=by simp
theorem beI (x:Int):(x == x)=true:=by simp
theorem aRb (o:Option (List Int)) (hn:((ol o).length:Int)<1000000):aC Tryz.prog 103 [ov bD o,ov bD o]=some (.v (.bool true)):=by
 rw[cL Tryz.func103 rfl aEH (by cases o<;>rfl)]
 refine jG ?_
 simp only[Z8,seval,YY];refine cM (fun m st=>∃k:Nat,(st.env 0=ov bD o∧st.env 1=ov bD o∧st.env 5=.v (.int .i64 k))∧k≤(ol o).length∧m=(ol o).length-k)
  (fun e st=>e=.exit 0) (ol o).length ?step ?start ?rest
 case step =>
  rintro m st ⟨k,hI,hk,hm⟩
  by_cases bA:(k:Int)<(ol o).length
  ·have q0:(0:Int)≤k:=by omega
   have hw:IntKind.i64.wrap ((k:Int)+1)=((k+1:Nat):Int):=by rw[pR _ (by omega) (by omega)];omega
   apply oN ((ol o).length-(k+1))
   ·simp only[Z8,seval,hI,bA,q0,YY,hw];rfl
   ·exact⟨k+1,by simp only[E8,seval,hI],by omega,rfl⟩
  ·apply oT (.exit 0)
   ·simp only[Z8,seval,hI,bA];rfl
   ·exact rfl
 case start=>exact⟨0,by simp only[E8,seval]<;>exact⟨rfl,rfl,rfl⟩,by omega,by omega⟩
 case rest =>
  rintro e st rfl
  simp only[Z8,seval];exact⟨_,bW rfl (by simp only[E8,seval]<;>rfl) (by first|exact .v _|simp only[dW]),rfl⟩
theorem aB5 (o:Option (List Int)) (hn:((ol o).length:Int)<1000000) (st:St) (d:Option Nat):aL (aC Tryz.prog) 103 [ov bD o,ov bD o] st d=some { dst:=d,val:=.v (.bool true)}:=bK (bH (dR o) (dR o)) (aRb o hn) (.v _)
theorem aRc (o:Option (List kS)) (hn:((ol o).length:Int)<1000000):aC Tryz.prog 104 [ov cU o,ov cU o]=some (.v (.bool true)):=by
 rw[cL Tryz.func104 rfl aMh (by cases o<;>rfl)]
 refine jG ?_
 simp only[Z8,seval,YY];refine cM (fun m st=>∃k:Nat,(st.env 0=ov cU o∧st.env 1=ov cU o∧st.env 5=.v (.int .i64 k))∧k≤(ol o).length∧m=(ol o).length-k)
  (fun e st=>e=.exit 0) (ol o).length ?step ?start ?rest
 case step =>
  rintro m st ⟨k,hI,hk,hm⟩
  by_cases bA:(k:Int)<(ol o).length
  ·have q0:(0:Int)≤k:=by omega
   have hw:IntKind.i64.wrap ((k:Int)+1)=((k+1:Nat):Int):=by rw[pR _ (by omega) (by omega)];omega
   apply oN ((ol o).length-(k+1))
   ·simp only[Z8,seval,hI,bA,q0,YY,hw];rfl
   ·exact⟨k+1,by simp only[E8,seval,hI],by omega,rfl⟩
  ·apply oT (.exit 0)
   ·simp only[Z8,seval,hI,bA];rfl
   ·exact rfl
 case start=>exact⟨0,by simp only[E8,seval]<;>exact⟨rfl,rfl,rfl⟩,by omega,by omega⟩
 case rest =>
  rintro e st rfl
  simp only[Z8,seval];exact⟨_,bW rfl (by simp only[E8,seval]<;>rfl) (by first|exact .v _|simp only[dW]),rfl⟩
theorem aRd (o:Option (List kS)) (hn:((ol o).length:Int)<1000000) (st:St) (d:Option Nat):aL (aC Tryz.prog) 104 [ov cU o,ov cU o] st d=some { dst:=d,val:=.v (.bool true)}:=bK (bH (qQ o) (qQ o)) (aRc o hn) (.v _)
theorem aMi (o:Option (List Int)) (hn:((ol o).length:Int)<1000000):aC Tryz.prog 105 [ov aJ o,ov aJ o]=some (.v (.bool true)):=by
 rw[cL Tryz.func105 rfl aEG (by cases o<;>rfl)]
 refine jG ?_
 simp only[Z8,seval,YY];refine cM (fun m st=>∃k:Nat,(st.env 0=ov aJ o∧st.env 1=ov aJ o∧st.env 5=.v (.int .i64 k))∧k≤(ol o).length∧m=(ol o).length-k)
  (fun e st=>e=.exit 0) (ol o).length ?step ?start ?rest
 case step =>
  rintro m st ⟨k,hI,hk,hm⟩
  by_cases bA:(k:Int)<(ol o).length
  ·have q0:(0:Int)≤k:=by omega
   have hw:IntKind.i64.wrap ((k:Int)+1)=((k+1:Nat):Int):=by rw[pR _ (by omega) (by omega)];omega
   apply oN ((ol o).length-(k+1))
   ·simp only[Z8,seval,hI,bA,q0,YY,hw];rfl
   ·exact⟨k+1,by simp only[E8,seval,hI],by omega,rfl⟩
  ·apply oT (.exit 0)
   ·simp only[Z8,seval,hI,bA];rfl
   ·exact rfl
 case start=>exact⟨0,by simp only[E8,seval]<;>exact⟨rfl,rfl,rfl⟩,by omega,by omega⟩
 case rest =>
  rintro e st rfl
  simp only[Z8,seval];exact⟨_,bW rfl (by simp only[E8,seval]<;>rfl) (by first|exact .v _|simp only[dW]),rfl⟩
theorem aE5 (o:Option (List Int)) (hn:((ol o).length:Int)<1000000) (st:St) (d:Option Nat):aL (aC Tryz.prog) 105 [ov aJ o,ov aJ o] st d=some { dst:=d,val:=.v (.bool true)}:=bK (bH (bS o) (bS o)) (aMi o hn) (.v _)
theorem aRe (a:rX) (V:Option (List Int)) (ha:a.eY=ov aJ V) (hn:((ol V).length:Int)<1000000):aC Tryz.prog 108 [.agg (iB a),.agg (iB a)]=some (.v (.bool true)):=by
 rw[cL Tryz.func108 rfl aEI rfl];refine jG ?_
 simp only[Z8,seval,ha,beI,aE5 V hn];exact⟨_,bW rfl (by simp only[E8,seval]<;>rfl) (by first|exact .v _|simp only[dW]),rfl⟩
theorem aRf (a:rX) (h:Cq a) (st:St) (d:Option Nat):aL (aC Tryz.prog) 108 [.agg (iB a),.agg (iB a)] st d=some { dst:=d,val:=.v (.bool true)}:=by
 obtain⟨V,ha,hl⟩:=h
 have hf:Flat (.agg (iB a)):=(zC a).2 (by rw[ha];exact bS V)
 exact bK (bH hf hf) (aRe a V ha hl) (.v _)
theorem aRg (a:Table) (V:Option (List Int)) (ha:a.jN=ov bD V) (hn:((ol V).length:Int)<1000000):aC Tryz.prog 159 [.agg (cI a),.agg (cI a)]=some (.v (.bool true)):=by
 rw[cL Tryz.func159 rfl aEJ rfl];refine jG ?_
 simp only[Z8,seval,ha,beI,aB5 V hn];exact⟨_,bW rfl (by simp only[E8,seval]<;>rfl) (by first|exact .v _|simp only[dW]),rfl⟩
theorem aRh (a:Table) (h:sC a) (st:St) (d:Option Nat):aL (aC Tryz.prog) 159 [.agg (cI a),.agg (cI a)] st d=some { dst:=d,val:=.v (.bool true)}:=by
 obtain⟨V,ha,hl⟩:=h
 have hf:Flat (.agg (cI a)):=(kK a).2 (by rw[ha];exact dR V)
 exact bK (bH hf hf) (aRg a V ha hl) (.v _)
theorem aRi (o:Option (List Table)) (hn:((ol o).length:Int)<1000000) (hA:∀a∈ol o,sC a):aC Tryz.prog 107 [ov aT o,ov aT o]=some (.v (.bool true)):=by
 rw[cL Tryz.func107 rfl aMj (by cases o<;>rfl)]
 refine jG ?_
 simp only[Z8,seval,YY,beI];refine cM (fun m st=>∃k:Nat,(st.env 0=ov aT o∧st.env 1=ov aT o∧st.env 5=.v (.int .i64 k))∧k≤(ol o).length∧m=(ol o).length-k)
  (fun e st=>e=.exit 0) ((ol o).length) ?step ?start ?rest
 case step =>
  rintro m st ⟨k,hI,hk,hm⟩
  by_cases bA:(k:Int)<((ol o).length:Nat)
  ·have q0:(0:Int)≤k:=by omega
   have hw:IntKind.i64.wrap ((k:Int)+1)=((k+1:Nat):Int):=by rw[pR _ (by omega) (by omega)];omega
   have kk:=aRh _ (hA _ (tY (z:=iW) q0 bA))
   apply oN ((ol o).length-(k+1))
   ·simp only[Z8,seval,hI,bA,q0,kk,YY,hw,beI];rfl
   ·exact⟨k+1,by simp only[E8,seval,hI],by omega,rfl⟩
  ·apply oT (.exit 0)
   ·simp only[Z8,seval,hI,bA,beI];rfl
   ·exact rfl
 case start=>exact⟨0,by simp only[E8,seval]<;>exact⟨rfl,rfl,rfl⟩,by omega,by omega⟩
 case rest =>
  rintro e st rfl
  simp only[Z8,seval];exact⟨_,bW rfl (by simp only[E8,seval]<;>rfl) (by first|exact .v _|simp only[dW]),rfl⟩
theorem aRj (o:Option (List Table)) (hn:((ol o).length:Int)<1000000) (hA:∀a∈ol o,sC a) (st:St) (d:Option Nat):aL (aC Tryz.prog) 107 [ov aT o,ov aT o] st d=some { dst:=d,val:=.v (.bool true)} :=
 bK (bH (lX o fun y m=>(hA y m).fl) (lX o fun y m=>(hA y m).fl)) (aRi o hn hA) (.v _)
theorem B9 {call:Nat→List AV→Option AV} {ops:Array Oper} {st:St} {T:Nat} {pos:String} {eP:Array Edge} (s x:Operand):cF Tryz.prog call ops ⟨some 26,.call ⟨.builtin .append,#[s,x],#[54,54]⟩,T,pos,eP,none⟩ st=cN (kY Tryz.prog st 54 (st.ev s) (st.ev x)) fun u =>
 some ((st.iY u.1 u.2.1 (some u.2.2.1)).put (some 26) (.vw u.1 u.2.1 0 u.2.2.2)):=UJ s x 54 26 (aCo rfl)
theorem Lq (L:List Request) (k:Nat):(aA L).take (k * 35)=aA (L.take k):=vZ (c:=bL) (sz:=35) fO L k
theorem Xs (L:List Request) (k:Nat):(aA L).drop (k * 35)=aA (L.drop k):=xU (c:=bL) (sz:=35) fO L k
theorem EM (a b:List Request):aA (a++b)=aA a++aA b:=by simp[aA]
theorem Kf (l:List Request):∀c∈aA l,dY c:=by
 intro c hc;obtain⟨x,_,hx⟩:=List.mem_flatMap.1 hc
 exact HB x c hx
theorem c81 (L:List Request) (i j:Nat) (hij:i≤j) (hj:j≤L.length) (hn:(L.length:Int)<1000000) :
 aC Tryz.prog 81 [.uniq 63 35 L.length (aA L),.v (.int .i64 i),.v (.int .i64 j)]=some (.uniq 63 35 (L.take i++L.drop j).length (aA (L.take i++L.drop j))):=by
 rw[Iz Tryz.prog Tryz.func81 rfl aRk _ _ _ _ _ (sE _ _)];have a3:(0:Int)≤i∧(i:Int)≤j∧(j:Int)≤L.length∧(L.length:Int)≤L.length:=by omega
 have s3:∀(st:St) (lo hi mx:Operand),st.heap 0 0=some (.row 63 35 L.length (aA L))→st.ev lo=.v (.int .i64 i)→st.ev hi=.v (.int .i64 j)→st.ev mx=.v (.int .i64 L.length)→vX Tryz.prog st 54 (.own 0 0) (some lo) hi mx=some (.sl ((j:Int)-i).toNat []):=fun st lo hi mx h1 h2 h3 h4=>by
  simp only[vX,xX,h1,h2,h3,h4,if_pos a3]
 by_cases e:(i:Int)=j
 ·have e':i=j:=by omega
  subst e'
  rw[List.take_append_drop];simp only[Z8,seval,jB,mI,jC,kU,mJ,s3,beI];exact MK (P:=Tryz.prog) (fn:=Tryz.f81) (s:=0) (g:=0) (.inl rfl) rfl (by unfold kE;simp only[E8,seval,jB]) (by simp only[E8,seval,jC]) (Kf L)
 have bA:i<j:=by omega
 obtain⟨K,hK⟩:∃K,i+(L.length-j)=K:=⟨_,rfl⟩
 have hKn:K<L.length:=by omega
 obtain⟨L2,hL2⟩:∃L2,L.take i++L.drop j++L.drop K=L2:=⟨_,rfl⟩
 have l2:L2.length=L.length:=by rw[← hL2];simp;omega
 have lK:(L.take i++L.drop j).length=K:=by simp;omega
 have t2:L2.take K=L.take i++L.drop j:=by rw[← hL2,← lK];exact List.take_left
 have f1:∀(st:St) (hi:Operand),st.heap 0 0=some (.row 63 35 L.length (aA L))→st.ev hi=.v (.int .i64 i)→cW Tryz.prog st 54 (.own 0 0) none (some hi)=some (.vw 0 0 0 i):=fun st hi hh he=>by
  have h1:¬((0:Int)=i∧¬((0:Int)=0∧0<L.length)):=by omega
  have h2:(0:Int)≤i∧(i:Int)≤L.length:=by omega
  simp only[cW,xX,hh,he,if_neg h1,h2,Int.le_refl,and_self,if_true];simp
  intro h3 h4;rw[h4] at hj;simp at hj
  omega
 obtain⟨X,f2,f2v⟩:∃X,(∀(st:St) (lo:Operand),st.heap 0 0=some (.row 63 35 L.length (aA L))→st.ev lo=.v (.int .i64 j)→cW Tryz.prog st 54 (.own 0 0) (some lo) none=some X) ∧
  (∀st:St,st.heap 0 0=some (.row 63 35 L.length (aA L))→aR st X=some (L.length-j,aA (L.drop j))):=by
  by_cases g:j=L.length
  ·refine⟨.sl 0 [],fun st lo hh he=>?_,fun st hh=>by rw[g];simp[aR,aA]⟩
   have h1:(j:Int)=L.length∧¬((j:Int)=0∧0<L.length):=by omega
   have h2:(0:Int)≤j∧(j:Int)≤L.length:=by omega
   simp only[cW,xX,hh,he,if_pos h1,h2,Int.le_refl,and_self,if_true]
  ·refine⟨.vw 0 0 (j * 35) (L.length-j),fun st lo hh he=>?_,fun st hh=>?_⟩
   ·have h1:¬((j:Int)=L.length∧¬((j:Int)=0∧0<L.length)):=by omega
    have h2:(0:Int)≤j∧(j:Int)≤L.length:=by omega
    have h3:((L.length:Int)-(j:Int)).toNat=L.length-j:=by omega
    simp only[cW,xX,hh,he,if_neg h1,h2,h3,Int.le_refl,and_self,if_true,Int.toNat_natCast]
   ·have hb:j * 35+(L.length-j) * 35≤(aA L).length:=by rw[gO];omega
    simp only[aR,hh,if_pos hb];rw[Xs,List.take_of_length_le (by rw[gO];simp)]
 have f3:∀st:St,st.heap 0 0=some (.row 63 35 L.length (aA L))→kY Tryz.prog st 54 (.vw 0 0 0 i) X=some (0,0,.row 63 35 L.length (aA L2),K):=fun st hh=>by
  have hc:(63:Nat)=63∧(35:Nat)=35∧(aA (L.drop j)).length=(L.length-j) * 35∧i+(L.length-j)≤L.length:=⟨rfl,rfl,by rw[gO];simp,by omega⟩
  simp only[kY,xX,f2v st hh,hh];rw[if_pos ⟨trivial,trivial,hc.2.2⟩,← Nat.add_mul,hK,Lq,Xs,← EM,← EM,hL2]
 have f4:∀st:St,st.heap 0 0=some (.row 63 35 L.length (aA L2))→aR st (.vw 0 0 0 K)=some (K,aA (L.take i++L.drop j)):=fun st hh=>by
  have hb:0+K * 35≤(aA L2).length:=by rw[gO,l2];omega
  simp only[aR,hh,if_pos hb,List.drop_zero];rw[Lq,t2]
 have f5:∀(st:St) (lo hi:Operand),st.heap 0 0=some (.row 63 35 L.length (aA L2))→st.ev lo=.v (.int .i64 K)→st.ev hi=.v (.int .i64 L.length)→cW Tryz.prog st 54 (.vw 0 0 0 K) (some lo) (some hi)=some (.vw 0 0 (K * 35) (L.length-K)):=fun st lo hi hh h1 h2=>by
  have h3:(0:Int)≤K∧(K:Int)<L.length∧(L.length:Int)≤L.length:=by omega
  have h4:((L.length:Int)-(K:Int)).toNat=L.length-K:=by omega
  simp only[cW,xX,hh,h1,h2,if_pos h3,h4,Int.toNat_natCast]
 obtain⟨Z,f6,hZ,hZm⟩:∃Z,(∀st:St,st.heap 0 0=some (.row 63 35 L.length (aA L2))→rV Tryz.prog st 54 (.vw 0 0 (K * 35) (L.length-K))=some (some (0,0,.row 63 35 L.length (aA (L.take i++L.drop j)++Z))))∧Z.length=(L.length-K) * 35∧∀c∈Z,dY c:=by
  refine⟨(List.range (L.length-K)).flatMap fun _=>wP.map AV.v,fun st hh=>?_, ?_,fun c hc=>?_⟩
  ·have hc:(63:Nat)=63∧(35:Nat)=35∧K * 35+(L.length-K) * 35≤(aA L2).length:=⟨rfl,rfl,by rw[gO,l2];omega⟩
   simp only[rV,xX,T6,hh];rw[if_pos ⟨trivial,trivial,hc.2.2⟩];have hd:(aA L2).drop (K * 35+(L.length-K) * 35)=[]:=List.drop_of_length_le (by rw[gO,l2];omega)
   rw[hd,Lq,t2,List.append_nil]
  ·have hv:(wP.map AV.v).length=35:=by kernel_rfl
   generalize L.length-K=m
   induction m with
   | zero=>rfl
   | succ m ih=>rw[List.range_succ,List.flatMap_append,List.length_append,ih];simp only[List.flatMap_cons,List.flatMap_nil,List.append_nil,hv];omega
  ·obtain⟨_,_,hc⟩:=List.mem_flatMap.1 hc
   obtain⟨x,_,rfl⟩:=List.mem_map.1 hc
   exact .v x
 have fl:((aA (L.take i++L.drop j))++Z).length=L.length * 35:=by rw[List.length_append,gO,lK,hZ,← Nat.add_mul];congr 1;omega
 simp only[Z8,seval,jB,mI,jC,kU,mJ,s3,bf e,B9,NG,f1,f2,f3,f4,f5,f6];have hE:=fun st=>aCp (st:=st) (P:=Tryz.prog) (fn:=Tryz.f81) (k:=K) (ee:=63) (sz:=35) (n:=L.length) (cs:=aA (L.take i++L.drop j)++Z) (e:=.ret) (s:=0) (g:=0) (.inl rfl) rfl
 have tk:(aA (L.take i++L.drop j)++Z).take (K * 35)=aA (L.take i++L.drop j):=by
  rw[← lK,← gO];exact List.take_left
 simp only[tk] at hE;rw[lK];exact hE _ (by unfold kE;simp only[E8,seval,jB]) (by simp only[E8,seval,jC]) (by omega) fl (fun c hc=>by
  rcases List.mem_append.1 hc with hc|hc
  ·exact Kf _ c hc
  ·exact hZm c hc)
def Mr (t:State) (S:aO) (q r:AV):State:={ t with store:=S,dN:=q,kH:=r }
def nS (v:SV):Nat:=(Dy v).length
def nR (v:SV) (Q:Option (List Request)):Nat:=nS v+(rl 63 35 aA Q).length
def Ve (v:SV) (Q R:Option (List Request)):List nM:=Dy v++(rl 63 35 aA Q++rl 63 35 aA R)
def cpT (t:State) (v:SV) (Q R:Option (List Request)) (d c:Nat):State:=Mr t (SE t.store v d c) (rv d (c+nS v) Q) (rv d (c+nR v Q) R)
theorem qX {α:Type} (d k e sz:Nat) (c:List α→List AV) (L:Option (List α)):gJ (rv d k L)=(List.range' k (rl e sz c L).length).map (Prod.mk d):=by cases L<;>rfl
theorem aCq (s:aO) (v:SV) (d c:Nat):(aB (SE s v d c)).flatMap gJ=(List.range' c (nS v)).map (Prod.mk d):=by
 have e:nS v=(rl 23 1 bD v.B).length+((rl 100 34 cU v.L).length+((rl 3 1 aJ v.Q).length+((rl 87 67 dG v.E).length+((rl 74 238 aH v.O).length+(1+(rl 118 34 aT v.T).length))))):=by
  simp only[nS,Dy,List.length_append,List.length_cons,List.length_nil]
 unfold SE;rw[Ke,qX d c 23 1 bD v.B,qX d (c+nB v) 100 34 cU v.L,qX d (c+nL v) 3 1 aJ v.Q,qX d (c+nQ v) 87 67 dG v.E,qX d (c+nE v) 74 238 aH v.O,qX d (c+nO v+1) 118 34 aT v.T,e,
  show gJ (.own d (c+nO v))=(List.range' (c+nO v) 1).map (Prod.mk d) from rfl]
 simp only[← List.map_append];congr 1
 have a:=fun s m n=>(List.range'_append_1 (s:=s) (m:=m) (n:=n)).symm
 rw[a c,a (c+_),a (c+_+_),a (c+_+_+_),a (c+_+_+_+_),a (c+_+_+_+_+_)];simp only[nO,nE,nQ,nL,nB,Nat.add_assoc]
theorem T7 (t:State) (v:SV) (Q R:Option (List Request)) (a b c:Nat):(aF (Mr t (SE t.store v a 0) (rv b 0 Q) (rv c 0 R))).flatMap gJ=(List.range' 0 (nS v)).map (Prod.mk a)++((List.range' 0 (rl 63 35 aA Q).length).map (Prod.mk b)++(List.range' 0 (rl 63 35 aA R).length).map (Prod.mk c)):=by
 simp only[Mr,aF,List.flatMap_append,List.flatMap_cons,List.flatMap_nil,List.append_nil,aCq,nK (eD _),nK (mO _),nK (lD _),qX b 0 63 35 aA Q,qX c 0 63 35 aA R]
theorem Xt (t:State) (v:SV) (Q R:Option (List Request)) (d c:Nat):pU (xP d) c (aF (Mr t (SC t.store (uo 23 1 bD v.B) (uo 100 34 cU v.L) (uo 3 1 aJ v.Q) (uo 87 67 dG v.E) (uo 74 238 aH v.O) (.uniq 76 240 v.ns.length (cD v.ns)) (uo 118 34 aT v.T)) (uo 63 35 aA Q) (uo 63 35 aA R)))=(aF (cpT t v Q R d c),Ve v Q R):=by
 unfold cpT Mr aF;simp only[Xm,Lp,Vd,rO d _ (eD _),rO d _ (mO _),rO d _ (lD _),List.length_nil,Nat.add_zero,List.append_nil,Ve,nR,nS,Nat.add_assoc]
theorem aMk (v:SV) (j:Nat):(if j<(Dy v).length then (Dy v)[j]? else none)=(Dy v)[j]?:=by
 split
 ·rfl
 ·rw[List.getElem?_eq_none (by omega)]
theorem aCr {st:St} {s:aO} {v:SV} (hs:SD s v) {d c:Nat} (hh:∀j,j<nS v→st.heap d (c+j)=(Dy v)[j]?):Tw st (aB (SE s v d c))=some (aB (SC s (uo 23 1 bD v.B) (uo 100 34 cU v.L) (uo 3 1 aJ v.Q) (uo 87 67 dG v.E) (uo 74 238 aH v.O) (.uniq 76 240 v.ns.length (cD v.ns)) (uo 118 34 aT v.T))):=by
 have ix:∀ {j:Nat} {e:nM},(Dy v)[j]? = some e→st.heap d (c+j)=some e:=fun h=>by rw[hh _ (List.getElem?_eq_some_iff.1 h).1,h]
 exact Xp s (iT (fun l hl=>by have:=ix (aMa v l hl);rwa [Nat.add_zero] at this) fun l _=>iE l) (iT (fun l hl=>ix (aMb v l hl)) fun l _=>nH l) (iT (fun l hl=>ix (aMc v l hl)) fun l _=>gF l)
  (iT (fun l hl=>ix (aMd v l hl)) fun l hl=>sT l fun y m=>(hs.eV y (by rw[hl];exact m)).fl) (iT (fun l hl=>ix (aMe v l hl)) fun l _=>pB l)
  (iT (L:=some v.ns) (fun l hl=>by cases hl;exact ix (aMf v)) fun l _=>kD l) (iT (fun l hl=>by have:=ix (aMg v l hl);rwa [← Nat.add_assoc] at this) fun l hl=>lY l fun y m=>(hs.tB y (by rw[hl];exact m)).fl)
theorem aGl {st:St} {s:aO} {v:SV} (hs:SD s v) {d c:Nat} (hh:∀j,j<nS v→st.heap d (c+j)=(Dy v)[j]?):Qg st (aB (SE s v d c))=some (aB s):=by
 have ix:∀ {j:Nat} {e:nM},(Dy v)[j]? = some e→st.heap d (c+j)=some e:=fun h=>by rw[hh _ (List.getElem?_eq_some_iff.1 h).1,h]
 rw[gK];simp only[SE,SC];rw[pO (e:=23) (sz:=1) (c:=bD) (fun l hl=>by have:=ix (aMa v l hl);rwa [Nat.add_zero] at this) (fun l _=>iE l),cZ,
  pO (e:=100) (sz:=34) (c:=cU) (fun l hl=>ix (aMb v l hl)) (fun l _=>nH l),cZ,
  pO (e:=3) (sz:=1) (c:=aJ) (fun l hl=>ix (aMc v l hl)) (fun l _=>gF l),cZ,
  pO (e:=87) (sz:=67) (c:=dG) (fun l hl=>ix (aMd v l hl)) (fun l hl=>sT l fun y m=>(hs.eV y (by rw[hl];exact m)).fl),cZ,
  pO (e:=74) (sz:=238) (c:=aH) (fun l hl=>ix (aMe v l hl)) (fun l _=>pB l),cZ,
  ← YX d (c+nO v) v.ns,pO (e:=76) (sz:=240) (c:=cD) (fun l hl=>by cases hl;exact ix (aMf v)) (fun l _=>kD l),cZ,
  pO (e:=118) (sz:=34) (c:=aT) (fun l hl=>by have:=ix (aMg v l hl);rwa [← Nat.add_assoc] at this) (fun l hl=>lY l fun y m=>(hs.tB y (by rw[hl];exact m)).fl),cZ]
 have hn:ov cD (some v.ns)=s.tree.nodes:=by rw[hs.tree];rfl
 rw[hn,← hs.jN,← hs.dQ,← hs.gZ,← hs.early,← hs.bX,← hs.tables]
theorem UK {st:St} {t:State} {v:SV} (hs:SD t.store v) {d c:Nat} {q r q' r':AV} (hh:∀j,j<nS v→st.heap d (c+j)=(Dy v)[j]?) (h1:cA st q=some q') (h2:cA st r=some r'):fK st (.agg (aF (Mr t (SE t.store v d c) q r)))=some (.agg (aF (Mr t t.store q' r'))):=by
 rw[bR];simp only[Mr,aF,uD,aGl hs hh,wB,h1,h2,jK (eD _),jK (mO _),jK (lD _),mZ,cZ]
theorem c80 {t:State} {v:SV} {Q R:Option (List Request)} (h:TD t v Q R) (gW:NEv v) (hB:v.B≠some []) (hL:v.L≠some []) (ht:0<v.ns.length) (hQ:Q≠some []) (hR:R≠some []) :
 aC Tryz.prog 80 [.agg (aF t)]=some (.agg (aF (Mr t (SC t.store (uo 23 1 bD v.B) (uo 100 34 cU v.L) (uo 3 1 aJ v.Q) (uo 87 67 dG v.E) (uo 74 238 aH v.O) (.uniq 76 240 v.ns.length (cD v.ns)) (uo 118 34 aT v.T)) (uo 63 35 aA Q) (uo 63 35 aA R)))):=by
 have hs:=h.sd
 have nQ:((ol Q).length:Int)<1000000:=by have:=h.nQ;omega
 have nR:((ol R).length:Int)<1000000:=by have:=h.nR;omega
 rw[cL Tryz.func80 rfl aRl rfl];simp only[Z8,seval,aRa hs gW hB hL ht,h.Ai,h.ret,aL1 Q hQ nQ,aL1 R hR nR,NW,T5];have key:∀st:St,(∀j,j<nS v→st.heap 5 (0+j)=(Dy v)[j]?)→(∀l,Q=some l→st.heap 9 0=some (.row 63 35 l.length (aA l)))→(∀l,R=some l→st.heap 13 0=some (.row 63 35 l.length (aA l))) →
  Tw st (aF (Mr t (SE t.store v 5 0) (rv 9 0 Q) (rv 13 0 R)))=some (aF (Mr t (SC t.store (uo 23 1 bD v.B) (uo 100 34 cU v.L) (uo 3 1 aJ v.Q) (uo 87 67 dG v.E) (uo 74 238 aH v.O) (.uniq 76 240 v.ns.length (cD v.ns)) (uo 118 34 aT v.T)) (uo 63 35 aA Q) (uo 63 35 aA R))):=fun st h1 h2 h3=>by
  simp only[Mr,aF,Xn,aCr hs h1,qW (iT h2 fun l _=>dX l),qW (iT h3 fun l _=>dX l),tI (eD _),tI (mO _),tI (lD _),cZ]
 refine Ni rfl (.inl rfl) rfl (x:=.agg (aF (Mr t (SE t.store v 5 0) (rv 9 0 Q) (rv 13 0 R)))) ?x1 ?x2 (Qz (key _ ?h1 ?h2 ?h3))
 case x1=>simp only[bV,Z8,seval,NW,Mr]
 case x2 =>
  show ((aF _).flatMap gJ).Nodup
  rw[T7];have nd:∀(d n:Nat),((List.range' 0 n).map (Prod.mk d)).Nodup:=fun d n=>List.Pairwise.map (Prod.mk d) (fun a b hab e=>hab (Prod.mk.inj e).2) (List.nodup_range' (step:=1))
  refine List.nodup_append.2 ⟨nd 5 _,List.nodup_append.2 ⟨nd 9 _,nd 13 _, ?_⟩, ?_⟩
  ·intro x hx y hy;obtain⟨_,_,rfl⟩:=List.mem_map.1 hx
   obtain⟨_,_,rfl⟩:=List.mem_map.1 hy
   simp
  ·intro x hx y hy;obtain⟨_,_,rfl⟩:=List.mem_map.1 hx
   rcases List.mem_append.1 hy with hy|hy
   ·obtain⟨_,_,rfl⟩:=List.mem_map.1 hy
    simp
   ·obtain⟨_,_,rfl⟩:=List.mem_map.1 hy
    simp
 case h1 =>
  intro j hj;rw[Nat.zero_add];simp only[E8,seval,NW,true_and,Nat.zero_le,Nat.sub_zero,aMk]
 case h2 =>
  intro l hl;simp only[E8,seval,NW,hl,xZ,true_and,Nat.zero_le,Nat.sub_zero,List.length_cons,List.length_nil,Nat.zero_lt_succ,if_true]<;>rfl
 case h3 =>
  intro l hl;simp only[E8,seval,NW,hl,xZ,true_and,Nat.zero_le,Nat.sub_zero,List.length_cons,List.length_nil,Nat.zero_lt_succ,if_true]<;>rfl
theorem T8 (v:SV) (Q R:Option (List Request)):Ve v Q R≠[]:=by simp[Ve,Dy]
theorem k80 {t:State} {v:SV} {Q R:Option (List Request)} (h:TD t v Q R) (gW:NEv v) (hB:v.B≠some []) (hL:v.L≠some []) (ht:0<v.ns.length) (hQ:Q≠some []) (hR:R≠some []) (st:St) (d:Nat) :
 aL (aC Tryz.prog) 80 [.agg (aF t)] st (some d)=some { dst:=some d,val:=.agg (aF (cpT t v Q R d (st.aP d))),new:=some (d,Ve v Q R)}:=by
 rw[HA (cV h.flat) (c80 h gW hB hL ht hQ hR) (by rw[Xt];exact .inr (T8 v Q R)),Xt]
 simp only[KO,if_neg (T8 v Q R)]
theorem NH (x:Option Nat) (y:AV) (d:Nat) (v:SV) (Q R:Option (List Request)) (st:St):({ dst:=x,val:=y,new:=some (d,Ve v Q R)}:rC).apply st=(st.news d (Ve v Q R)).put x y:=rfl
theorem aGm (v:SV) (Q R:Option (List Request)) (j:Nat) (h:j<nS v):(Ve v Q R)[j]? = (Dy v)[j]?:=by
 unfold Ve;rw[List.getElem?_append_left h]
theorem aGn (v:SV) (Q R:Option (List Request)) (l:List Request) (h:Q=some l):(Ve v Q R)[nS v]? = some (.row 63 35 l.length (aA l)):=by
 unfold Ve;rw[mA _ _ _ 0 (by rfl),h];rfl
theorem aCs (v:SV) (Q R:Option (List Request)) (l:List Request) (h:R=some l):(Ve v Q R)[nR v Q]? = some (.row 63 35 l.length (aA l)):=by
 unfold Ve;rw[mA _ _ _ _ (show nR v Q=_+_ from rfl),mA _ _ _ 0 (by rfl),h];rfl
theorem c79 (a:sV) (n:Int):aC Tryz.prog 79 [.agg (jX a),.v (.int .u64 n)]=some (.v (.bool (decide (a.tag=n)))):=by
 rw[cL Tryz.func79 rfl aRm rfl];refine jG ?_
 by_cases h:a.tag=n
 ·simp only[Z8,seval,bt h];exact⟨_,bW rfl (by simp only[E8,seval]<;>rfl) (by first|exact .v _|simp only[dW]),by rw[decide_eq_true h]⟩
 ·simp only[Z8,seval,bf h];exact⟨_,bW rfl (by simp only[E8,seval]<;>rfl) (by first|exact .v _|simp only[dW]),by rw[decide_eq_false h]⟩
theorem k79 (a:sV) (n:Int) (st:St) (d:Option Nat):aL (aC Tryz.prog) 79 [.agg (jX a),.v (.int .u64 n)] st d=some { dst:=d,val:=.v (.bool (decide (a.tag=n)))}:=bK (bH (.agg _ (Et a)) (.v _)) (c79 a n) (.v _)
theorem aCt (w:fM):Flat (.ip (bZ w) 0):=.ip _ _ (gN w)
theorem c78 (r:Request) (w:fM):aC Tryz.prog 78 [.agg (bL r),.ip (bZ w) 0]=some (.v (.bool (decide (r.tagged.tag=w.tagged.tag)))):=by
 rw[cL Tryz.func78 rfl aRn rfl];refine jG ?_
 simp only[Z8,seval,k79];exact⟨_,bW rfl (by simp only[E8,seval]<;>rfl) (by first|exact .v _|simp only[dW]),rfl⟩
theorem k78 (r:Request) (w:fM) (st:St) (d:Option Nat):aL (aC Tryz.prog) 78 ([.agg (bL r)]++[.ip (bZ w) 0]) st d=some { dst:=d,val:=.v (.bool (decide (r.tagged.tag=w.tagged.tag)))}:=bK (bH (.agg _ (fQ r)) (aCt w)) (c78 r w) (.v _)
theorem c77 (o:Option (List Request)) (hn:((ol o).length:Int)<1000000) (w:fM):aC Tryz.prog 77 [ov aA o,.uO 78 [.ip (bZ w) 0]]=some (.v (.int .i64 (wI (zN (ol o) w.tagged.tag) (ol o).length))):=by
 rw[cL Tryz.func77 rfl aMl (by cases o<;>rfl)]
 refine jG ?_
 simp only[Z8,seval];refine cM (fun m st=>∃k:Nat,(st.env 0=ov aA o∧st.env 1=.uO 78 [.ip (bZ w) 0]∧st.env 7=.v (.int .i64 (ol o).length)∧st.env 8=.v (.int .i64 k))∧(∀j:Nat,j<k→¬zN (ol o) w.tagged.tag j)∧k≤(ol o).length∧m=(ol o).length-k)
  (fun e st=>(e=.ret∧∃k:Nat,k<(ol o).length∧zN (ol o) w.tagged.tag k∧(∀j:Nat,j<k→¬zN (ol o) w.tagged.tag j)∧st.env 4=.v (.int .i64 k))∨(e=.exit 0∧∀j:Nat,j<(ol o).length→¬zN (ol o) w.tagged.tag j)) (ol o).length ?step ?start ?rest
 case step =>
  rintro m st ⟨k,hI,hj,hk,hm⟩
  by_cases bA:(k:Int)<(ol o).length
  ·have q0:(0:Int)≤k:=by omega
   have hw:IntKind.i64.wrap ((k:Int)+1)=((k+1:Nat):Int):=by rw[pR _ (by omega) (by omega)];omega
   by_cases hr:zN (ol o) w.tagged.tag k
   ·have hd:decide ((gx bN (ol o) (k:Int)).tagged.tag=w.tagged.tag)=true:=decide_eq_true hr
    apply oT (.ret)
    ·simp only[Z8,seval,hI,bA,q0,k78,hd];rfl
    ·exact .inl ⟨rfl,k,by omega,hr,hj,by simp only[E8,seval]⟩
   ·have hd:decide ((gx bN (ol o) (k:Int)).tagged.tag=w.tagged.tag)=false:=decide_eq_false hr
    apply oN ((ol o).length-(k+1))
    ·simp only[Z8,seval,hI,bA,q0,k78,hd,hw];rfl
    ·exact⟨k+1,by simp only[E8,seval,hI],fun j h=>(Nat.lt_succ_iff_lt_or_eq.1 h).elim (hj j) fun e=>by subst e;exact hr,by omega,rfl⟩
  ·apply oT (.exit 0)
   ·simp only[Z8,seval,hI,bA];rfl
   ·exact .inr ⟨rfl,fun j h=>hj j (by omega)⟩
 case start=>exact⟨0,by simp only[E8,seval]<;>rfl,fun j h=>by omega,by omega,by omega⟩
 case rest =>
  rintro e st (⟨rfl,k,hk,hh,hj,h⟩|⟨rfl,hj⟩)
  ·have hv:wI (zN (ol o) w.tagged.tag) (ol o).length=k:=Em hh hj _ hk
   simp only[Z8,seval];exact⟨_,bW rfl (by simp only[E8,seval,h]<;>rfl) (by first|exact .v _|simp only[dW,h]),by rw[hv]⟩
  ·have hv:wI (zN (ol o) w.tagged.tag) (ol o).length=-1:=rH _ hj
   simp only[Z8,seval];exact⟨_,bW rfl (by simp only[E8,seval]<;>rfl) (by first|exact .v _|simp only[dW]),by rw[hv]⟩
theorem aCu (t:State) (v:SV) (Q R:Option (List Request)) (d c:Nat):(cpT t v Q R d c).dN=rv d (c+nS v) Q:=rfl
theorem Ra:Flat (.agg (aF jR)):=by simp only[dW,jR,gQ,nJ,Hd,Ba,Lf,and_self]
theorem T9 {t:State} {v:SV} {Q R:Option (List Request)} (h:TD t v Q R) (q:AV):Mr t t.store q (ov aA R)={ t with dN:=q }:=by
 unfold Mr;rw[← h.ret]
theorem c26 {t:State} {v:SV} {Q R:Option (List Request)} (h:TD t v Q R) (gW:NEv v) (hB:v.B≠some []) (hL:v.L≠some []) (ht:0<v.ns.length) (hQ:Q≠some []) (hR:R≠some []) (w:fM):∃x,aC Tryz.prog 26 [.agg (aF t),.agg (bZ w)]=some x ∧
 (((∀j:Nat,j<(ol Q).length→¬zN (ol Q) w.tagged.tag j)∧x=.eN [.agg (bL bN),.agg (aF jR),.v (.int .i64 23)]) ∨
  ∃k:Nat,k<(ol Q).length∧zN (ol Q) w.tagged.tag k∧(∀j:Nat,j<k→¬zN (ol Q) w.tagged.tag j)∧x=.eN [.agg (bL (gx bN (ol Q) (k:Int))),.agg (aF { t with dN:=ov aA (some ((ol Q).take k++(ol Q).drop (k+1)))}),.v (.int .i64 0)]):=by
 have iX:=h.fl
 have nQ1:((ol Q).length:Int)<1000000:=by have:=h.nQ;omega
 have Sq:=Ra
 have q77:∀(args:List AV) (st:St) (d:Option Nat),aL (aC Tryz.prog) 77 args st d=sA (aC Tryz.prog) 77 (cC (args.map (fK st))) (decide (∀x∈args,Flat x)) st d:=fun args st d=>lF _ _ _ _ _
 have k77:∀(fl:Bool) (st:St) (d:Option Nat),sA (aC Tryz.prog) 77 (some [ov aA Q,.uO 78 [.ip (bZ w) 0]]) fl st d=some { dst:=d,val:=.v (.int .i64 (wI (zN (ol Q) w.tagged.tag) (ol Q).length))}:=fun fl st d=>Ss (c77 Q nQ1 w)
 have eV:∀(st:St) (o:Nat),Nh st (some (.cells (bZ w))) o=some (.ip (bZ w) o):=fun st o=>Kz st (gN w) o
 rw[cG Tryz.func26 rfl aMm (by kernel_rfl) rfl]
 rcases vH (zN (ol Q) w.tagged.tag) (ol Q).length with ⟨e,hj⟩|⟨k,hk,hh,hj,e⟩
 ·rw[e] at k77;simp only[ZG,seval,Bool.false_and,Prod.mk.injEq,aGp,h.Ai,q77,Cn,eV,k77];exact⟨_,by apply gP;rfl;all_goals simp only[aI,bV,Z8,seval,Sq]<;>rfl,.inl ⟨hj,rfl⟩⟩
 ·rw[e] at k77;have q0:¬(k:Int)<0:=by omega
  have q1:(0:Int)≤k:=by omega
  have q2:(k:Int)<((ol Q).length:Int):=by omega
  have hw:IntKind.i64.wrap ((k:Int)+1)=((k+1:Nat):Int):=by rw[pR _ (by omega) (by omega)];omega
  cases Q with
  | none=>simp[ol] at hk
  | some L =>
    rw[Vf] at *
    have hd:=c81 L k (k+1) (by omega) (by omega) nQ1
    have km:∀s g d c,mvE (aC Tryz.prog) 81 [.v (.int .i64 k),.v (.int .i64 ((k+1:Nat):Int))] s g d c (some (.row 63 35 L.length (aA L)))=_:=fun s g d c=>ML (dX L) (bH (.v _) (.v _)) hd
    have eq:=aGn v (some L) R L rfl
    have lt:nS v<(Ve v (some L) R).length:=(List.getElem?_eq_some_iff.1 eq).1
    have key:∀(st:St) (g:Nat),(∀j,j<nS v→st.heap 18 (0+j)=(Dy v)[j]?)→st.heap 24 g=some (.row 63 35 (L.take k++L.drop (k+1)).length (aA (L.take k++L.drop (k+1))))→(∀l,R=some l→st.heap 18 (0+nR v (some L))=some (.row 63 35 l.length (aA l)))→fK st (.agg (aF { cpT t v (some L) R 18 0 with dN:=.own 24 g }))=some (.agg (aF { t with dN:=ov aA (some (L.take k++L.drop (k+1)))})):=fun st g h1 h2 h3=>by
     rw[← T9 h];exact UK h.sd h1 (jJ h2) (pO h3 fun l _=>dX l)
    simp only[ZG,seval,Bool.false_and,Prod.mk.injEq,aGp,h.Ai,q77,Cn,eV,k77,q0,q1,q2,hw,k80 h gW hB hL ht hQ hR,NH,NW,aCu,YX,eq,lt,km,Vf,Fq,Fp];refine⟨_,gP rfl (x1:=.agg (bL (gx bN L (k:Int)))) ?a1 (x2:=.agg (aF { cpT t v (some L) R 18 0 with dN:=.own 24 0 })) ?a2 (x3:=.v (.int .i64 0)) ?a3 (dP (.agg _ (fQ _))) (key _ 0 ?b1 ?b2 ?b3) (dP (.v _)),.inr ⟨k,hk,hh,hj,rfl⟩⟩
    case a1=>simp only[bV,Z8,seval,NW]
    case a2=>simp only[bV,Z8,seval,NW]
    case a3=>simp only[bV,E8,seval,NW]
    case b1 =>
     intro j hj;have lj:j<(Ve v (some L) R).length:=by omega
     have nj:(j=nS v)=False:=eq_false (by omega)
     rw[Nat.zero_add];simp only[E8,seval,NW,true_and,Nat.zero_le,Nat.sub_zero,Nat.zero_add,nj,lj,if_true,if_false,aGm v (some L) R j hj]
    case b2=>simp only[E8,seval,NW]
    case b3 =>
     intro l hl;have er:=aCs v (some L) R l hl
     have lj:nR v (some L)<(Ve v (some L) R).length:=(List.getElem?_eq_some_iff.1 er).1
     have nj:(nR v (some L)=nS v)=False:=eq_false (by simp[nR,rl])
     rw[Nat.zero_add];simp only[E8,seval,NW,true_and,Nat.zero_le,Nat.sub_zero,Nat.zero_add,nj,lj,if_true,if_false,er]
theorem aMn:aE 4 77 (some 54)=[]:=rfl
theorem x42 {s:aO} {v:SV} (hs:SD s v):∃r,aC Tryz.prog 42 [.agg (aB s),.agg (aB s)]=some r∧r=.v (.bool true):=by
 have iX:=hs.flat
 rw[cG Tryz.func42 rfl aRo (by kernel_rfl) rfl]
 have kB:=aB5 v.B hs.nB
 have kL:=aRd v.L hs.nL
 have kQ:=aE5 v.Q hs.nQ
 have kn:=aOp v.ns v.ns hs.nn
 have kT:=aRj v.T hs.nT hs.tB
 simp only[ZG,seval,Bool.false_and,Prod.mk.injEq,UL,aMn,hs.jN,hs.dQ,hs.gZ,hs.early,hs.bX,hs.tree,hs.tables,YY,beI,kB,kL,kQ,kn,kT,decide_true,Bool.not_true,pJ,pK];refine lJ (fun m st=>∃k:Nat,(st.env 2=.ptr 2 0 0∧st.heap 2 0=some (.cells (aB s))∧st.env 3=.ptr 3 0 0∧st.heap 3 0=some (.cells (aB s))∧st.env 7=.v (.int .i64 k))∧k≤(ol v.E).length∧m=(ol v.E).length-k)
  (fun e st=>e=.exit 0∧(st.env 2=.ptr 2 0 0∧st.heap 2 0=some (.cells (aB s))∧st.env 3=.ptr 3 0 0∧st.heap 3 0=some (.cells (aB s)))) (ol v.E).length ?step ?start ?rest
 case step =>
  rintro m st ⟨k,hI,hk,hm⟩
  have hn:=hs.nE
  by_cases bA:(k:Int)<(ol v.E).length
  ·have q0:(0:Int)≤k:=by omega
   have hw:IntKind.i64.wrap ((k:Int)+1)=((k+1:Nat):Int):=by rw[pR _ (by omega) (by omega)];omega
   have kk:=aRf _ (hs.eV _ (tY (z:=Jo) q0 bA))
   apply Ct ((ol v.E).length-(k+1))
   ·simp only[ZG,seval,Bool.false_and,Prod.mk.injEq,UL,hs.early,hI,bA,q0,kk,YY,Bool.not_true,hw];rfl
   ·exact⟨k+1,by simp only[E8,seval,hI],by omega,rfl⟩
  ·apply FY (.exit 0)
   ·simp only[ZG,seval,Bool.false_and,Prod.mk.injEq,UL,hs.early,hI,bA];rfl
   ·exact⟨rfl,by simp only[E8,seval,hI]⟩
 case start=>exact⟨0,by simp only[E8,seval]<;>exact⟨rfl,rfl,rfl,rfl,rfl⟩,by omega,by omega⟩
 case rest =>
  rintro e st ⟨rfl,hI⟩
  simp only[ZG,seval,Bool.false_and,Prod.mk.injEq,UL,hI];refine lJ (fun m st=>∃k:Nat,(st.env 2=.ptr 2 0 0∧st.heap 2 0=some (.cells (aB s))∧st.env 3=.ptr 3 0 0∧st.heap 3 0=some (.cells (aB s))∧st.env 8=.v (.int .i64 k))∧k≤(ol v.O).length∧m=(ol v.O).length-k)
   (fun e st=>e=.exit 2) (ol v.O).length ?O5 ?TT ?ME
  case O5 =>
   rintro m st ⟨k,hI,hk,hm⟩
   have hn:=hs.nO
   by_cases bA:(k:Int)<(ol v.O).length
   ·have q0:(0:Int)≤k:=by omega
    have hw:IntKind.i64.wrap ((k:Int)+1)=((k+1:Nat):Int):=by rw[pR _ (by omega) (by omega)];omega
    apply Ct ((ol v.O).length-(k+1))
    ·simp only[ZG,seval,Bool.false_and,Prod.mk.injEq,UL,hs.bX,hI,bA,q0,YY,decide_true,Bool.not_true,hw];rfl
    ·exact⟨k+1,by simp only[E8,seval,hI],by omega,rfl⟩
   ·apply FY (.exit 2)
    ·simp only[ZG,seval,Bool.false_and,Prod.mk.injEq,UL,hs.bX,hI,bA];rfl
    ·exact rfl
  case TT=>exact⟨0,by simp only[E8,seval,hI]<;>exact⟨rfl,rfl,rfl,rfl,rfl⟩,by omega,by omega⟩
  case ME =>
   rintro e st rfl
   simp only[ZG,seval,Bool.false_and,Prod.mk.injEq,UL];exact⟨_,bW rfl (by simp only[E8,seval]<;>rfl) (by first|exact .v _|simp only[dW]),rfl⟩
theorem k42 {s:aO} {v:SV} (hs:SD s v) (st:St) (d:Option Nat):aL (aC Tryz.prog) 42 [.agg (aB s),.agg (aB s)] st d=some { dst:=d,val:=.v (.bool true)}:=by
 obtain⟨r,h,e⟩:=x42 hs
 subst e;exact bK (bH hs.flat hs.flat) h (.v _)
end Go.Ab.Tryz
namespace Go.Ab.Tryz
open Classical Go.Proofs Go.Ab
open Classical Go.Proofs Go.Ab
open Classical Go.Proofs Go.Ab
end Go.Ab.Tryz
namespace Go.Ab.Tryz
open Classical Go.Proofs Go.Ab
theorem beB (x:Bool):(x == x)=true:=by simp
theorem TI.lists {t:State} {v:SV} {Q R:Option (List Request)} {q m:Int} (T:TI t v Q R q m):v.B≠some []∧∃L,v.L=some L∧L≠[]:=by
 have h1:=T.toTI0.jN.1
 have h2:=T.gi.MC
 constructor
 ·intro h;rw[h] at h1;exact absurd h1 (by simp[ol])
 ·cases h:v.L with
  | none=>rw[h] at h2;simp only[ol,Option.getD_none,List.length_nil] at h2;simp only[ol] at h1;omega
  | some L =>
    refine⟨L,rfl,fun e=>?_⟩
    rw[h,e] at h2;simp only[ol,Option.getD_some,List.length_nil] at h2;simp only[ol] at h1;omega
theorem c82 (o p:Option (List Request)) (e:ol p=ol o) (hn:((ol o).length:Int)<1000000):aC Tryz.prog 82 [ov aA o,ov aA p]=some (.v (.bool true)):=by
 rw[cL Tryz.func82 rfl aRp (by cases o<;>cases p<;>rfl)]
 refine jG ?_
 simp only[Z8,seval,e,YY];refine cM (fun m st=>∃k:Nat,(st.env 0=ov aA o∧st.env 1=ov aA p∧st.env 5=.v (.int .i64 k))∧k≤(ol o).length∧m=(ol o).length-k)
  (fun e st=>e=.exit 0) (ol o).length ?step ?start ?rest
 case step =>
  rintro m st ⟨k,hI,hk,hm⟩
  by_cases bA:(k:Int)<(ol o).length
  ·have q0:(0:Int)≤k:=by omega
   have hw:IntKind.i64.wrap ((k:Int)+1)=((k+1:Nat):Int):=by rw[pR _ (by omega) (by omega)];omega
   apply oN ((ol o).length-(k+1))
   ·simp only[Z8,seval,e,hI,bA,q0,YY,decide_true,Bool.not_true,hw];rfl
   ·exact⟨k+1,by simp only[E8,seval,hI],by omega,rfl⟩
  ·apply oT (.exit 0)
   ·simp only[Z8,seval,e,hI,bA];rfl
   ·exact rfl
 case start=>exact⟨0,by simp only[E8,seval]<;>exact⟨rfl,rfl,rfl⟩,by omega,by omega⟩
 case rest =>
  rintro e st rfl
  simp only[Z8,seval];exact⟨_,bW rfl (by simp only[E8,seval]<;>rfl) (by first|exact .v _|simp only[dW]),rfl⟩
theorem k82 (o p:Option (List Request)) (e:ol p=ol o) (hn:((ol o).length:Int)<1000000) (st:St) (d:Option Nat):aL (aC Tryz.prog) 82 [ov aA o,ov aA p] st d=some { dst:=d,val:=.v (.bool true)}:=bK (bH (cH o) (cH p)) (c82 o p e hn) (.v _)
theorem c28 {t:State} {v:SV} {Q R:Option (List Request)} (h:TD t v Q R) (Q' R':Option (List Request)) (eQ:ol Q'=ol Q) (eR:ol R'=ol R):aC Tryz.prog 28 [.agg (aF (Mr t t.store (ov aA Q') (ov aA R'))),.agg (aF t)]=some (.v (.bool true)):=by
 have nQ:((ol Q').length:Int)<1000000:=by rw[eQ];have:=h.nQ;omega
 have nR:((ol R').length:Int)<1000000:=by rw[eR];have:=h.nR;omega
 have kq:=k82 Q' Q eQ.symm nQ
 have kr:=k82 R' R eR.symm nR
 have iX:=h.fl
 have ft:Flat (.agg (aF (Mr t t.store (ov aA Q') (ov aA R')))):=(mN _).2 ⟨iX.1,iX.2.1,iX.2.2.1,iX.2.2.2.1,iX.2.2.2.2.1,iX.2.2.2.2.2.1,iX.2.2.2.2.2.2.1,cH Q',cH R'⟩
 rw[cL Tryz.func28 rfl aRq rfl];refine jG ?_
 simp only[Z8,seval,Mr,h.Ai,h.ret,k42 h.sd,kq,kr,YY,beI,beB,decide_true,pJ,pK];exact⟨_,bW rfl (by simp only[E8,seval]<;>rfl) (by first|exact .v _|simp only[dW]),rfl⟩
theorem k28 {t:State} {v:SV} {Q R:Option (List Request)} (h:TD t v Q R) (Q' R':Option (List Request)) (eQ:ol Q'=ol Q) (eR:ol R'=ol R) (st:St) (d:Option Nat):aL (aC Tryz.prog) 28 [.agg (aF (Mr t t.store (ov aA Q') (ov aA R'))),.agg (aF t)] st d=some { dst:=d,val:=.v (.bool true)}:=by
 have iX:=h.fl
 have ft:Flat (.agg (aF (Mr t t.store (ov aA Q') (ov aA R')))):=(mN _).2 ⟨iX.1,iX.2.1,iX.2.2.1,iX.2.2.2.1,iX.2.2.2.2.1,iX.2.2.2.2.2.1,iX.2.2.2.2.2.2.1,cH Q',cH R'⟩
 exact bK (bH ft h.flat) (c28 h Q' R' eQ eR) (.v _)
structure WT (t:State) (v:SV):Prop where
 td:TD t v (some [⟨⟨1⟩,mkRoot 9,0,0⟩]) none
 ne:NEv v
 hB:v.B≠some []
 hL:v.L≠some []
 pos:0<v.ns.length
 op:xW v.ns (mkRoot 9)
 tag:t.cT=2
 now:t.store.now=1
theorem x83:∃r,aC Tryz.prog 83 []=some r∧∃(t:State) (v:SV),r=.agg (aF t)∧WT t v:=by
 obtain⟨y,hy,c,b,rfl,hc⟩:=aLM [7] (by decide)
 have fc:Flat (.agg (bU c)):=(yI c).2 (by rw[hc.jN];exact dR _)
 have aCm:∀(st:St) (a g:Nat) (d:Option Nat),st.heap a g=some (.row 3 1 1 [.v (.int .i64 7)])→fF (aC Tryz.prog) 101 [.own a g] st d=some { dst:=d,val:=.agg (bU c),dK:=some (a,g,none)}:=fun st a g d hh=>by
  rw[Ix (s:=a) (k:=g) rfl (by intro y hy;simp only[List.mem_cons,List.not_mem_nil,or_false] at hy;subst hy;exact .inr (.inl ⟨a,g,rfl⟩)),List.map_cons,List.map_nil,Iy (L:=[7]) hh,bP,gL]
  exact EA hy fc
 obtain⟨y2,hy2,zH,last,y3,rfl,fy⟩:=aLX hc
 have g0:=(GI.new hc).now 1
 have r0:=RG.new hc
 have gf:=S5 hc
 obtain⟨s0,hs0⟩:∃s0,TY c b=s0:=⟨_,rfl⟩
 have O0:s0.cFg=c:=by rw[← hs0];rfl
 have GB:s0.bM.fin=⟨0,c.eC⟩:=by rw[← hs0];rfl
 have htr:s0.tree=⟨.sl (Tv c b).ns.length (cD (Tv c b).ns)⟩:=by rw[← hs0];rfl
 have hb0:({ B7 c b with zH:=zH,last:=last }:State)={ store:=s0,dN:=.v (.slice none 0 0),kH:=.v (.slice none 0 0),cT:=1,zH:=zH,last:=last,overflow:=false,halted:=false }:=by rw[← hs0];rfl
 rw[hs0] at g0;have KM:=((TI.new hc).emit zH last).td.flat
 have R9:=kx hy2 (cV fc) (.eN _ (nD KM fy (.v _)))
 rw[hb0] at R9;obtain⟨w,hw⟩:∃w,Tv c b=w:=⟨_,rfl⟩
 rw[hw] at g0 gf htr r0;have hslot:(nd w.ns 0).block.slot=0:=by rw[← hw];rfl
 have hlen:w.ns.length=1:=by rw[← hw];rfl
 have kI:∀B:Block,B.root=mkRoot 9→B.parent=c.eC→B.slot=1→∀(st:St) (d:Option Nat),aL (aC Tryz.prog) 149 [.agg (cX ⟨w.ns⟩),.agg (aU B),.v (.int .i64 0)] st d=some { dst:=d,val:=.eN [.agg (cX ⟨w.ns++[⟨B,0,0⟩]⟩),.v (.int .i64 0)]}:=fun B h1 h2 h3 st d=>by
  have hE:Tt w.ns B 0=0:=by
   unfold Tt;rw[if_neg (by decide),h1,gf.2,if_neg (by omega),h2,gf.1,if_neg (by omega),hslot,h3,if_neg (by omega),if_neg (by rw[hlen];omega)]
  have hA:Ec w.ns B 0=.eN [.agg (cX ⟨w.ns++[⟨B,0,0⟩]⟩),.v (.int .i64 0)]:=by
   unfold Ec;rw[if_pos hE,h2,gf.1]
  rw[← hA];exact aJi w.ns g0.sd.nn B 0 st d
 obtain⟨T1,UE⟩:∃T1:Block→State,T1=fun B=>{ store:={ cFg:=c,gG:=s0.gG,bM:=s0.bM,dV:=s0.dV,tree:={ nodes:=.sl (w.ns++[(⟨B,0,0⟩:Node)]).length (cD (w.ns++[⟨B,0,0⟩]))},now:=1,iI:=s0.iI,tables:=s0.tables },dN:=.v (.slice none 0 0),kH:=.v (.slice none 0 0),cT:=1,zH:=zH,last:=last,overflow:=false,halted:=false }:=⟨_,rfl⟩
 have hP:∀B:Block,B.root=mkRoot 9→B.parent=c.eC→B.iQ=mkRoot 109→TD (T1 B) { w with ns:=w.ns++[⟨B,0,0⟩]} none none∧xW (w.ns++[⟨B,0,0⟩]) (mkRoot 9):=fun B h1 h2 h3=>by
  have hs:Np B=0:=by
   unfold Np;rw[h3,if_neg];intro e;have e1:IntKind.u8.wrap 109=dL[0]:=by rw[← tG,e]
   rw[show dL[0]=0 from rfl] at e1
   exact absurd e1 (by decide)
  have hi:Ah w B=w.ns++[⟨B,0,0⟩]:=by unfold Ah;rw[h2,gf.1,hs]
  have g1:=g0.Jn (b:=B) (by rw[hlen];show ((1:Nat):Int)<s0.cFg.mH.rR;rw[O0];have:=hc.n6;omega) (by rw[h2,gf.1];omega)
  have eS:Tryz.Jn { s0 with now:=1 } w B=(T1 B).store:=by rw[UE];unfold Tryz.Jn;rw[hi];simp only[O0]
  have eW:He w B={ w with ns:=w.ns++[⟨B,0,0⟩]}:=by unfold He;rw[hi]
  rw[eS,eW] at g1;have n0:((ol (none:Option (List Request))).length:Int)<900000:=by show ((0:Nat):Int)<_;omega
  refine⟨⟨g1.sd,by rw[UE];rfl,by rw[UE];rfl,n0,n0⟩, ?_⟩
  have f9:aN (w.ns++[⟨B,0,0⟩]) (mkRoot 9)=1:=by
   rw[← hw];have e:(Tv c b).ns=[⟨GH c,-1,1⟩]:=rfl
   rw[e];unfold aN;have gW:¬(GH c).root=mkRoot 9:=by show ¬c.eC=mkRoot 9;rw[hc.gen];exact aEY (by omega) (by omega) (by omega) (by omega) (by omega)
   simp[List.findIdx?_cons,gW,h1]
  refine⟨by rw[f9];omega, ?_⟩
  rw[f9,← hw];rfl
 have kO:∀B:Block,B.root=mkRoot 9→B.parent=c.eC→B.iQ=mkRoot 109→∀(st:St) (a g:Nat) (d:Option Nat),st.heap a g=some (.row 27 32 1 (aX (mkRoot 9))) →
  fF (aC Tryz.prog) 32 [.agg (aF (T1 B)),.own a g] st d=some { dst:=d,val:=.agg (aF (GM (T1 B) (some [⟨⟨1⟩,mkRoot 9,0,0⟩],2))),dK:=some (a,g,none)}:=fun B h1 h2 h3 st a g d hh=>by
  obtain⟨p1,p2⟩:=hP B h1 h2 h3
  have h:=c32 p1 (some [mkRoot 9]) (by show ((0:Nat):Int)+((1:Nat):Int)<_;omega)
  have hO:Li (w.ns++[⟨B,0,0⟩]) (none,(T1 B).cT) (ol (some [mkRoot 9]))=(some [⟨⟨1⟩,mkRoot 9,0,0⟩],2):=by
   rw[UE];show RZ _ (none,1) (mkRoot 9)=_
   unfold RZ;rw[if_pos p2];rfl
  have p1n:({ w with ns:=w.ns++[⟨B,0,0⟩]}:SV).ns=w.ns++[⟨B,0,0⟩]:=rfl
  rw[p1n,hO] at h;have iX:=p1.fl
  have fo:Flat (.agg (aF (GM (T1 B) (some [⟨⟨1⟩,mkRoot 9,0,0⟩],2)))):=(mN _).2 ⟨iX.1,iX.2.1,iX.2.2.1,iX.2.2.2.1,iX.2.2.2.2.1,iX.2.2.2.2.2.1,iX.2.2.2.2.2.2.1,cH (some _),iX.2.2.2.2.2.2.2.2⟩
  have hh':fK st (.own a g)=some (ov gM (some [mkRoot 9])):=by
   have:gM [mkRoot 9]=aX (mkRoot 9):=by simp[gM]
   show _=some (AV.sl 1 (gM [mkRoot 9]))
   rw[this];exact NJ hh (dJ _)
  have ft:=p1.flat
  rw[Ix (s:=a) (k:=g) (by rw[List.flatMap_cons,vK ft];rfl) (by intro y hy;simp only[List.mem_cons,List.not_mem_nil,or_false] at hy;rcases hy with rfl|rfl;exact .inl ft;exact .inr (.inl ⟨a,g,rfl⟩)),List.map_cons,List.map_cons,List.map_nil,dP ft,hh',bP,bP,gL]
  exact EA h fo
 simp only[UE] at kO;rw[cL Tryz.func83 rfl aRr rfl];simp only[Z8,seval,aCm,R9,eB,O0,GB,htr,Qj,kI,kO];obtain⟨B,hB⟩:∃B:Block,B=⟨⟨⟨0,c.eC⟩,⟨0,c.eC⟩⟩,1,mkRoot 9,c.eC,mkRoot 109,fC.diff,fC.Wo,⟨0,c.eC⟩,⟨0,c.eC⟩,fC.Bu⟩:=⟨_,rfl⟩
 obtain⟨p1,p2⟩:=hP B (by rw[hB]) (by rw[hB]) (by rw[hB])
 have iX:=p1.fl
 have fo:Flat (.agg (aF (GM (T1 B) (some [⟨⟨1⟩,mkRoot 9,0,0⟩],2)))):=(mN _).2 ⟨iX.1,iX.2.1,iX.2.2.1,iX.2.2.2.1,iX.2.2.2.2.1,iX.2.2.2.2.2.1,iX.2.2.2.2.2.2.1,cH (some _),iX.2.2.2.2.2.2.2.2⟩
 have hw':w.B=some b∧w.L=some (List.replicate b.length sD):=by rw[← hw];exact⟨rfl,rfl⟩
 refine⟨_,fL rfl (by simp only[E8,seval]<;>rfl) (by simp only[Z8,seval]<;>rfl) ?fl,GM (T1 B) (some [⟨⟨1⟩,mkRoot 9,0,0⟩],2),{ w with ns:=w.ns++[⟨B,0,0⟩]}, ?eq,⟨⟨p1.sd,rfl,p1.ret,by show ((1:Nat):Int)<_;omega,p1.nR⟩, ?_, ?_, ?_, ?_,p2,rfl,by rw[UE];rfl⟩⟩
 case fl=>subst UE hB;exact fo
 case eq=>subst UE hB;rfl
 ·exact⟨r0.ne.q,r0.ne.e,r0.ne.o,r0.ne.t,r0.ne.ea,r0.ne.tb⟩
 ·show w.B≠some []
  rw[hw'.1];have:=hc.nb
  intro e;cases e
  simp at this
 ·show w.L≠some []
  rw[hw'.2];have:=hc.nb
  intro e;have h2:=congrArg List.length (Option.some.inj e)
  rw[List.length_replicate,List.length_nil] at h2;omega
 ·show 0<(w.ns++[(⟨B,0,0⟩:Node)]).length
  simp
theorem aRs {t:State} {v:SV} {Q R:Option (List Request)} (h:TD t v Q R) (w:fM) (hj:∀j:Nat,j<(ol Q).length→¬zN (ol Q) w.tagged.tag j):aC Tryz.prog 26 [.agg (aF t),.agg (bZ w)]=some (.eN [.agg (bL bN),.agg (aF jR),.v (.int .i64 23)]):=by
 have Sq:=Ra
 have nQ1:((ol Q).length:Int)<1000000:=by have:=h.nQ;omega
 have q77:∀(args:List AV) (st:St) (d:Option Nat),aL (aC Tryz.prog) 77 args st d=sA (aC Tryz.prog) 77 (cC (args.map (fK st))) (decide (∀x∈args,Flat x)) st d:=fun args st d=>lF _ _ _ _ _
 have k77:∀(fl:Bool) (st:St) (d:Option Nat),sA (aC Tryz.prog) 77 (some [ov aA Q,.uO 78 [.ip (bZ w) 0]]) fl st d=some { dst:=d,val:=.v (.int .i64 (wI (zN (ol Q) w.tagged.tag) (ol Q).length))}:=fun fl st d=>Ss (c77 Q nQ1 w)
 have eV:∀(st:St) (o:Nat),Nh st (some (.cells (bZ w))) o=some (.ip (bZ w) o):=fun st o=>Kz st (gN w) o
 refine jG ?_
 rw[cG Tryz.func26 rfl aMm (by kernel_rfl) rfl]
 rw[rH _ hj] at k77;simp only[ZG,seval,Bool.false_and,Prod.mk.injEq,aGp,h.Ai,q77,Cn,eV,k77];exact⟨_,by apply gP;rfl;all_goals simp only[aI,bV,Z8,seval,Sq]<;>rfl,rfl⟩
theorem c29:aC Tryz.prog 29 []=some (.v (.bool true)):=by
 obtain⟨r,hr,t,v,rfl,W⟩:=x83
 have ft:=W.td.flat
 have k83:=kx hr (fun x h=>by cases h) ft
 obtain⟨y,hy,⟨hj,_⟩|⟨k,hk,hh,hj,rfl⟩⟩:=c26 W.td W.ne W.hB W.hL W.pos nofun nofun ⟨⟨1⟩,zO.kind,zO.dQ⟩
 ·exact absurd rfl (hj 0 (by show 0<1;omega))
 obtain rfl:k=0:=by have:k<1:=hk;omega
 have n0:((ol (some ([]:List Request))).length:Int)<900000:=by show ((0:Nat):Int)<_;omega
 have T2:TD { t with dN:=ov aA (some [])} v (some []) none:=⟨W.td.sd,rfl,W.td.ret,n0,W.td.nR⟩
 have B6:=T2.flat
 have e1:({ t with dN:=ov aA (some ((ol (some [(⟨⟨1⟩,mkRoot 9,0,0⟩:Request)])).take 0++(ol (some [(⟨⟨1⟩,mkRoot 9,0,0⟩:Request)])).drop (0+1)))}:State)={ t with dN:=ov aA (some [])}:=rfl
 have e2:gx bN (ol (some [(⟨⟨1⟩,mkRoot 9,0,0⟩:Request)])) ((0:Nat):Int)=⟨⟨1⟩,mkRoot 9,0,0⟩:=rfl
 rw[e1,e2] at hy;have fw:∀w:fM,Flat (.agg (bZ w)):=fun w=>.agg _ (gN w)
 have ka:=kx hy (bH ft (fw _)) (.eN _ (nD (.agg _ (fQ _)) B6 (.v _)))
 have kb:=kx (aRs T2 ⟨⟨1⟩,zO.kind,zO.dQ⟩ (fun j h=>by simp[ol] at h)) (bH B6 (fw _)) (.eN _ (nD (.agg _ (fQ _)) Ra (.v _)))
 obtain⟨t2,ht2⟩:∃t2,({ t with dN:=ov aA (some [])}:State)=t2:=⟨_,rfl⟩
 rw[ht2] at ka kb T2;rw[cL Tryz.func29 rfl aRt rfl];refine jG ?_
 simp only[Z8,seval,k83,ka,kb,eB,Qj,k79,T2.Ai,Vf,decide_true,beq_self_eq_true];exact⟨_,bW rfl (by simp only[E8,seval]<;>rfl) (by first|exact .v _|simp only[dW]),rfl⟩
theorem k29 (st:St) (d:Option Nat):aL (aC Tryz.prog) 29 [] st d=some { dst:=d,val:=.v (.bool true)}:=bK (fun x h=>by cases h) c29 (.v _)
end Go.Ab.Tryz
namespace Go.Ab.Tryz
open Go Go.Ab
def Db:List Value:=[.int .u64 0]++([.int .i64 0]++tE)
end Go.Ab.Tryz
namespace Go.Ab.Tryz
open Classical Go.Proofs Go.Ab
end Go.Ab.Tryz
namespace Go.Ab.Tryz
open Classical Go.Proofs Go.Ab
theorem aRu (o:Option (List Request)) (hn:((ol o).length:Int)<1000000) (f:Nat) (nN:List AV) (p:Request→Bool) (kf:∀x∈ol o,∀(st:St) (d:Option Nat),aL (aC Tryz.prog) f ([.agg (bL x)]++nN) st d=some { dst:=d,val:=.v (.bool (p x))}):aC Tryz.prog 77 [ov aA o,.uO f nN]=some (.v (.int .i64 (wI (fun k=>p (gx bN (ol o) k)=true) (ol o).length))):=by
 rw[cL Tryz.func77 rfl aMl (by cases o<;>rfl)]
 refine jG ?_
 simp only[Z8,seval];refine cM (fun m st=>∃k:Nat,(st.env 0=ov aA o∧st.env 1=.uO f nN∧st.env 7=.v (.int .i64 (ol o).length)∧st.env 8=.v (.int .i64 k))∧(∀j:Nat,j<k→¬p (gx bN (ol o) j)=true)∧k≤(ol o).length∧m=(ol o).length-k)
  (fun e st=>(e=.ret∧∃k:Nat,k<(ol o).length∧p (gx bN (ol o) k)=true∧(∀j:Nat,j<k→¬p (gx bN (ol o) j)=true)∧st.env 4=.v (.int .i64 k))∨(e=.exit 0∧∀j:Nat,j<(ol o).length→¬p (gx bN (ol o) j)=true)) (ol o).length ?step ?start ?rest
 case step =>
  rintro m st ⟨k,hI,hj,hk,hm⟩
  by_cases bA:(k:Int)<(ol o).length
  ·have q0:(0:Int)≤k:=by omega
   have hw:IntKind.i64.wrap ((k:Int)+1)=((k+1:Nat):Int):=by rw[pR _ (by omega) (by omega)];omega
   have kx':=kf _ (tY (z:=bN) q0 bA)
   by_cases hr:p (gx bN (ol o) k)=true
   ·rw[hr] at kx'
    apply oT (.ret)
    ·simp only[Z8,seval,hI,bA,q0,kx'];rfl
    ·exact .inl ⟨rfl,k,by omega,hr,hj,by simp only[E8,seval]⟩
   ·have hf:p (gx bN (ol o) k)=false:=by simpa using hr
    rw[hf] at kx'
    apply oN ((ol o).length-(k+1))
    ·simp only[Z8,seval,hI,bA,q0,kx',hw];rfl
    ·exact⟨k+1,by simp only[E8,seval,hI],fun j h=>(Nat.lt_succ_iff_lt_or_eq.1 h).elim (hj j) fun e=>by subst e;exact hr,by omega,rfl⟩
  ·apply oT (.exit 0)
   ·simp only[Z8,seval,hI,bA];rfl
   ·exact .inr ⟨rfl,fun j h=>hj j (by omega)⟩
 case start=>exact⟨0,by simp only[E8,seval]<;>rfl,fun j h=>by omega,by omega,by omega⟩
 case rest =>
  rintro e st (⟨rfl,k,hk,hh,hj,h⟩|⟨rfl,hj⟩)
  ·have hv:wI (fun k=>p (gx bN (ol o) k)=true) (ol o).length=k:=Em hh hj _ hk
   simp only[Z8,seval];exact⟨_,bW rfl (by simp only[E8,seval,h]<;>rfl) (by first|exact .v _|simp only[dW,h]),by rw[hv]⟩
  ·have hv:wI (fun k=>p (gx bN (ol o) k)=true) (ol o).length=-1:=rH _ hj
   simp only[Z8,seval];exact⟨_,bW rfl (by simp only[E8,seval]<;>rfl) (by first|exact .v _|simp only[dW]),by rw[hv]⟩
end Go.Ab.Tryz
namespace Go.Ab.Tryz
open Classical Go.Proofs Go.Ab
open Classical Go.Proofs Go.Ab
end Go.Ab.Tryz
