/-
  Part 17 of the proof: an evaluator of programs, its soundness, and what functions of this program compute.
-/
import Derived.Test.YtmcjkemalibacaaGreatK16
import Derived.Test.YtmcjkemalibacaaGreatK10
import Derived.Test.YtmcjkemalibacaaGreatK18
import Derived.Test.YtmcjkemalibacaaGreatK12
set_option linter.all false
set_option maxRecDepth 20000
set_option maxHeartbeats 40000000
namespace Go.Ab.Tryz
open Classical Go.Proofs Go.Ab
theorem k41 (st:St) (d:Option Nat):aN (aB Tryz.prog) 41 [] st d=some { dst:=d,val:=.v (.bool true)}:=bF (fun x h=>by cases h) c41 (.v _)
theorem Q2 (x:Bool):(x != x)=false:=by simp
theorem beB (x:Bool):(x == x)=true:=by simp
theorem TI.lists {t:State} {v:SV} {Q R:Option (List Request)} {q m:Int} (T:TI t v Q R q m):v.B≠some []∧∃L,v.L=some L∧L≠[]:=by
 have h1:=T.toTI0.iA.1
 have h2:=T.gi.FQ
 constructor
 ·intro h;rw[h] at h1;exact absurd h1 (by simp[ol])
 ·cases h:v.L with
  | none=>rw[h] at h2;simp only[ol,Option.getD_none,List.length_nil] at h2;simp only[ol] at h1;omega
  | some L =>
    refine⟨L,rfl,fun e=>?_⟩
    rw[h,e] at h2;simp only[ol,Option.getD_some,List.length_nil] at h2;simp only[ol] at h1;omega
theorem c7 (l:List Int) (k:Int) (hl:(l.length:Int)≤9223372036854775807):aB Tryz.prog 7 [.sl l.length (aH l),.v (.int .i64 k)]=some (.v (.bool true)):=by
 obtain⟨t,v,Q,R,hy,T⟩:=x24 l hl
 have H4:=kx hy (cK (Dm l)) T.td.flat
 obtain⟨b0,b1⟩:=sL k 16777215 (by decide)
 obtain⟨kk,JX⟩:∃kk,IntKind.i64.wrap ((BitVec.ofInt IntKind.i64.bits k &&& BitVec.ofInt IntKind.i64.bits 16777215).toNat:Int)=kk:=⟨_,rfl⟩
 rw[JX] at b0;obtain⟨y,hy2,a,V,rfl,ha,hV,Qt,_⟩:=x37 T.gi T.rg T.toTI0.iA kk b0
 have fa:Flat (.agg (eH a)):=(qE a).2 (by rw[ha];exact bE _)
 have u7:=kx hy2 (bA T.gi.sd.flat (.v _)) fa
 have nV:((ol (some V)).length:Int)<1000000:=by show (V.length:Int)<_;omega
 have Ec:Rg t.store.now:=⟨T.rg.now.1,by have:=T.rg.now.2;omega⟩
 have ka:=k38 T.gi.sd T.gi.up T.gi.To T.gi.jK Ec a Qt (some V) ha nV
 have kb:=kx (c39 T.gi.sd T.gi.up T.gi.sp a (some V) ha nV) (bA T.gi.sd.flat fa) (.eE _ (bA (.v _) (.v _)))
 have kv:=fun n=>kx (c40 (some V) nV n) (bA (bE _) (.v _)) (.v _)
 have AO:=T.gi.sd.iA
 rw[cL Tryz.func7 rfl ok7 rfl];refine jB ?_
 by_cases g:Dy V (ol v.B).length=0
 case neg =>
  simp only[Z8,seval,H4,JX,u7,ka,kb,ha,AO,kv,bf g,k41,Q2,beB,Xf,dM];exact⟨_,bP rfl (by simp only[E8,seval]<;>rfl) (by first|exact .v _|simp only[eA]),rfl⟩
 obtain⟨hB,L,hL,O1⟩:=T.lists
 have hr:∀x∈ol (some V),0≤x∧x<(ol v.L).length:=fun x hx=>by rw[T.gi.FQ];exact Wn g x hx
 have g2:=T.gi.cast a (ol (some V))
 have kc:=k43 T.gi.sd T.rg.ne hB L hL O1 T.gi.pos a (some V) ha nV hr g2.sd.flat
 have kd:=kx (c44 T.gi.sd a (some V) ha nV hr) (bA T.gi.sd.flat fa) g2.sd.flat
 have ke:=k42 g2.sd
 simp only[rW] at kc kd ke;simp only[Z8,seval,H4,JX,u7,ka,kb,ha,AO,kv,bt g,k41,Q2,beB,Xf,kc,kd,ke,dM,beq_self_eq_true,Bool.true_and,show ((some 49:Option Nat) == some 72)=false from rfl];exact⟨_,bP rfl (by simp only[E8,seval]<;>rfl) (by first|exact .v _|simp only[eA]),rfl⟩
def CCo (e:Int) (w:iV):Prop:=w.has=false∨w.aI<e
theorem v9 {α:Type} {z:α} (l:List α) (i:Int) (x:α) (h0:0≤i) (h1:i<l.length):gx z (l.set i.toNat x) i=x:=by
 have:i.toNat<l.length:=by omega
 simp[gx,this]
theorem w8 {α:Type} {z:α} (l:List α) (i j:Int) (x:α) (h0:0≤i) (hj:0≤j) (h:j≠i):gx z (l.set j.toNat x) i=gx z l i:=by
 have:j.toNat≠i.toNat:=by omega
 simp[gx,List.getElem?_set,this]
theorem aEE (e:Int) (r:bX):∀(V:List Int) (a:List iV × Int),(∀x∈V,0≤x∧x<a.1.length)→∀i:Int,0≤i→i<a.1.length →
 gx gI (V.foldl (Cg e r) a).1 i=if i∈V∧CCo e (gx gI a.1 i) then ⟨true,e,r⟩ else gx gI a.1 i
 | [],a,_,i,_,_=>by simp
 | x :: V,a,hV,i,i0,i1=>by
   have hx:=hV x (by simp)
   have hl:=DQ e r a x
   have ih:=aEE e r V (Cg e r a x) (fun y m=>by rw[hl];exact hV y (by simp[m])) i i0 (by rw[hl];exact i1)
   rw[List.foldl_cons,ih];by_cases hc:CCo e (gx gI a.1 x)
   ·have ha:(Cg e r a x).1=a.1.set x.toNat ⟨true,e,r⟩:=congrArg Prod.fst (if_pos hc)
    rw[ha];by_cases hi:x=i
    ·subst hi;have hr:x∈x :: V∧CCo e (gx gI a.1 x):=⟨by simp,hc⟩
     rw[v9 _ _ _ i0 i1,if_pos hr];split<;>rfl
    ·rw[w8 _ _ _ _ i0 hx.1 hi];have hi2:¬i=x:=fun h=>hi h.symm
     simp only[List.mem_cons,hi2,false_or]
   ·have ha:Cg e r a x=a:=if_neg hc
    rw[ha];by_cases hi:x=i
    ·subst hi;rw[if_neg (fun h=>hc h.2),if_neg (fun h=>hc h.2)]
    ·have hi2:¬i=x:=fun h=>hi h.symm
     simp only[List.mem_cons,hi2,false_or]
theorem YE (cs:List AV) (n s g m:Nat):eY (.ip cs n) (.ptr s g m)=True:=rfl
theorem YF (cs:List AV) (n s g m:Nat):eY (.ptr s g m) (.ip cs n)=True:=rfl
theorem c10 (l:List Int) (k:Int) (hl:(l.length:Int)≤9223372036854775807):aB Tryz.prog 10 [.sl l.length (aH l),.v (.int .i64 k)]=some (.v (.bool true)):=by
 obtain⟨t,v,Q,R,hy,T⟩:=x24 l hl
 have H4:=kx hy (cK (Dm l)) T.td.flat
 obtain⟨b0,b1⟩:=sL k 16777215 (by decide)
 obtain⟨kk,JX⟩:∃kk,IntKind.i64.wrap ((BitVec.ofInt IntKind.i64.bits k &&& BitVec.ofInt IntKind.i64.bits 16777215).toNat:Int)=kk:=⟨_,rfl⟩
 rw[JX] at b0;obtain⟨y,hy2,a,V,rfl,ha,hV,Qt,_⟩:=x37 T.gi T.rg T.toTI0.iA kk b0
 have fa:Flat (.agg (eH a)):=(qE a).2 (by rw[ha];exact bE _)
 have u7:=kx hy2 (bA T.gi.sd.flat (.v _)) fa
 have nV:((ol (some V)).length:Int)<1000000:=by show (V.length:Int)<_;omega
 have kv:=fun n=>kx (c40 (some V) nV n) (bA (bE _) (.v _)) (.v _)
 have AO:=T.gi.sd.iA
 by_cases g:Dy V (ol v.B).length=0
 case neg =>
  rw[cG Tryz.func10 rfl aLP (by kernel_rfl) rfl]
  refine jB ?_
  simp only[ZG,seval,Bool.false_and,Prod.mk.injEq,MV,H4,JX,u7,ha,AO,kv,bf g,k41,Q2,beB,Xf,dM];exact⟨_,bP rfl (by simp only[E8,seval]<;>rfl) (by first|exact .v _|simp only[eA]),rfl⟩
 obtain⟨hB,L,hL,O1⟩:=T.lists
 have hr:∀x∈ol (some V),0≤x∧x<(ol v.L).length:=fun x hx=>by rw[T.gi.FQ];exact Wn g x hx
 have g2:=T.gi.cast a (ol (some V))
 have kc:=k43 T.gi.sd T.rg.ne hB L hL O1 T.gi.pos a (some V) ha nV hr g2.sd.flat
 have MW:t.store.eZ.dR=ov bW (some L):=by rw[← hL];exact T.gi.sd.dR
 have hnL:(L.length:Int)<1000000:=by have:=T.gi.sd.nL;rw[hL] at this;exact this
 obtain⟨L2,hL2⟩:∃L2,(pC (ol v.L) a.target.aI a.root (ol (some V))).1=L2:=⟨_,rfl⟩
 have RT:L2.length=L.length:=by rw[← hL2,Ch,hL];rfl
 have hp:∀i:Int,0≤i→i<L.length→gx gI L2 i=if i∈ol (some V)∧CCo a.target.aI (gx gI L i) then ⟨true,a.target.aI,a.root⟩ else gx gI L i:=by
  intro i i0 i1;rw[← hL2];rw[hL] at hr ⊢;exact aEE _ _ (ol (some V)) (ol (some L),0) hr i i0 i1
 obtain⟨S2,N6⟩:∃S2,Eb t.store v a (ol (some V))=S2:=⟨_,rfl⟩
 have h2L:S2.eZ.dR=ov bW (some L2):=by rw[← N6,← hL2];rfl
 have hre:{ S2 with eZ:={ S2.eZ with dR:=ov bW (some L)} }=t.store:=by rw[← N6,← MW];rfl
 have k42':∀(st:St) (d:Option Nat),aN (aB Tryz.prog) 42 [.agg (aA t.store),.agg (aA { S2 with eZ:={ S2.eZ with dR:=ov bW (some L)} })] st d=some { dst:=d,val:=.v (.bool true)}:=fun st d=>by rw[hre];exact k42 T.gi.sd st d
 rw[N6] at kc;have hle:(L2.length:Int)=L.length:=by rw[RT]
 have km:=aBs (some V) nV
 rw[cG Tryz.func10 rfl aLP (by kernel_rfl) rfl]
 refine jB ?_
 simp only[ZG,seval,Bool.false_and,Prod.mk.injEq,MV,H4,JX,u7,ha,AO,kv,bt g,k41,Q2,beB,Xf,kc,h2L,MW,rW,hle,dM,beq_self_eq_true,Bool.true_and,show ((some 30:Option Nat) == some 72)=false from rfl];refine kX (fun m st=>∃k:Nat,(st.env 5=.ptr 5 0 0∧st.heap 5 0=some (.cells (aA t.store))∧st.env 6=.ptr 6 0 0∧st.heap 6 0=some (.cells (eH a))∧st.env 7=.ptr 7 0 0∧st.heap 7 0=some (.cells (aA S2))∧st.env 8=.v (.int .i64 k))∧k≤L.length∧m=L.length-k)
  (fun e st=>e=.exit 0∧(st.env 5=.ptr 5 0 0∧st.heap 5 0=some (.cells (aA t.store))∧st.env 6=.ptr 6 0 0∧st.heap 6 0=some (.cells (eH a))∧st.env 7=.ptr 7 0 0∧st.heap 7 0=some (.cells (aA S2)))) L.length ?step ?start ?rest
 case step =>
  rintro m st ⟨k,hI,hk,hm⟩
  by_cases aZ:(k:Int)<L.length
  ·have q0:(0:Int)≤k:=by omega
   have hw:IntKind.i64.wrap ((k:Int)+1)=((k+1:Nat):Int):=by rw[pV _ (by omega) (by omega)];omega
   have aBV:(k:Int)<L2.length:=by omega
   simp only[rW] at km;by_cases m1:(k:Int)∈V
   ·by_cases h1:(gx gI L (k:Int)).has=true
    ·by_cases h2:(gx gI L (k:Int)).aI<a.target.aI
     ·have QZ:gx gI L2 (k:Int)=⟨true,a.target.aI,a.root⟩:=(hp k q0 aZ).trans (if_pos (show (k:Int)∈ol (some V)∧CCo a.target.aI (gx gI L (k:Int)) from ⟨m1,.inr h2⟩))
      apply Bh (L.length-(k+1))
      ·simp only[ZG,seval,Bool.false_and,Prod.mk.injEq,MV,hI,MW,h2L,ha,rW,aZ,aBV,q0,km,beB,Q2,Xf,hw,yP,yO,YE,YF,and_self,decide_true,decide_false,Bool.not_true,Bool.not_false,Bool.true_and,m1,h1,h2,QZ];rfl
      ·exact⟨k+1,by simp only[E8,seval,hI],by omega,rfl⟩
     ·have QZ:gx gI L2 (k:Int)=gx gI L (k:Int):=(hp k q0 aZ).trans (if_neg (show ¬((k:Int)∈ol (some V)∧CCo a.target.aI (gx gI L (k:Int))) from fun h=>h.2.elim (fun g=>by rw[h1] at g;cases g) h2))
      apply Bh (L.length-(k+1))
      ·simp only[ZG,seval,Bool.false_and,Prod.mk.injEq,MV,hI,MW,h2L,ha,rW,aZ,aBV,q0,km,beB,Q2,Xf,hw,yP,yO,YE,YF,and_self,decide_true,decide_false,Bool.not_true,Bool.not_false,Bool.true_and,m1,h1,h2,QZ];rfl
      ·exact⟨k+1,by simp only[E8,seval,hI],by omega,rfl⟩
    ·have Sf:(gx gI L (k:Int)).has=false:=by simpa using h1
     have QZ:gx gI L2 (k:Int)=⟨true,a.target.aI,a.root⟩:=(hp k q0 aZ).trans (if_pos (show (k:Int)∈ol (some V)∧CCo a.target.aI (gx gI L (k:Int)) from ⟨m1,.inl Sf⟩))
     apply Bh (L.length-(k+1))
     ·simp only[ZG,seval,Bool.false_and,Prod.mk.injEq,MV,hI,MW,h2L,ha,rW,aZ,aBV,q0,km,beB,Q2,Xf,hw,yP,yO,YE,YF,and_self,decide_true,decide_false,Bool.not_true,Bool.not_false,Bool.true_and,m1,Sf,QZ];rfl
     ·exact⟨k+1,by simp only[E8,seval,hI],by omega,rfl⟩
   ·have QZ:gx gI L2 (k:Int)=gx gI L (k:Int):=(hp k q0 aZ).trans (if_neg (show ¬((k:Int)∈ol (some V)∧CCo a.target.aI (gx gI L (k:Int))) from fun h=>m1 h.1))
    apply Bh (L.length-(k+1))
    ·simp only[ZG,seval,Bool.false_and,Prod.mk.injEq,MV,hI,MW,h2L,ha,rW,aZ,aBV,q0,km,beB,Q2,Xf,hw,yP,yO,YE,YF,and_self,decide_true,decide_false,Bool.not_true,Bool.not_false,Bool.true_and,m1,QZ];rfl
    ·exact⟨k+1,by simp only[E8,seval,hI],by omega,rfl⟩
  ·apply FM (.exit 0)
   ·simp only[ZG,seval,Bool.false_and,Prod.mk.injEq,MV,hI,MW,rW,aZ];rfl
   ·exact⟨rfl,by simp only[E8,seval,hI]⟩
 case start=>exact⟨0,by simp only[E8,seval]<;>exact⟨rfl,rfl,rfl,rfl,rfl,rfl,rfl⟩,by omega,by omega⟩
 case rest =>
  rintro e st ⟨rfl,hI⟩
  simp only[ZG,seval,Bool.false_and,Prod.mk.injEq,MV,hI,MW,k42',k41];exact⟨_,bP rfl (by simp only[E8,seval]<;>rfl) (by first|exact .v _|simp only[eA]),rfl⟩
theorem Q3 {ns:List Node} (hu:fZ ns) (hr:(nd ns 0).up=-1) (s t:Int) (t0:0≤t):∀(n:Nat) (c:Int),c.toNat=n→0≤c→c<ns.length→Dh ns c s=t →
 vE ns t c=true∧(nd ns t).block.slot≤s∧(t=c∨∀f:Nat,c.toNat≤f→s<(nd ns (Ms ns t f c)).block.slot∧0≤Ms ns t f c∧Ms ns t f c<ns.length):=by
 intro n;induction n using Nat.strongRecOn with
 | _ n ih =>
   intro c hc c0 c1 h;by_cases hs:(nd ns c).block.slot≤s
   ·rw[FE hu ⟨c0,c1⟩ hs] at h;subst h;exact⟨decide_eq_true (uH hu c0 c1),hs,.inl rfl⟩
   ·by_cases hz:c=0
    ·subst hz;rw[RQ hu hr ⟨c0,c1⟩ hs,hr,Gn s (i:=-1) (by omega)] at h
     omega
    ·obtain⟨u0,u1⟩:=hu c (by omega) c1
     rw[RQ hu hr ⟨c0,c1⟩ hs] at h;obtain⟨h1,h2,h3⟩:=ih (nd ns c).up.toNat (by omega) _ rfl u0 (by omega) h
     have h4:=RS hu h1
     refine⟨by rw[I4 hu c1 (by omega) t0];exact h1,h2,.inr fun f hf=>?_⟩
     obtain⟨f,rfl⟩:∃f',f=f'+1:=⟨f-1,by omega⟩
     simp only[Ms];by_cases hx:(nd ns c).up=t
     ·rw[if_pos hx];exact⟨by omega,c0,c1⟩
     ·rw[if_neg hx];rcases h3 with h3|h3
      ·exact absurd h3.symm hx
      ·exact h3 f (by omega)
theorem aBW {s:aM} {v:SV} {a:oY} {V:List Int} (h:(qY s v a V).2=0):¬uO s a∧0≤aJ v.ns a.root∧0≤aJ v.ns a.target.root∧Dh v.ns (aJ v.ns a.root) (wN s a.target.aI).1=aJ v.ns a.target.root∧(qY s v a V).1=decide (s.now≤a.slot):=by
 unfold qY at h ⊢
 by_cases g1:Dy V (ol v.B).length≠0
 ·rw[if_pos g1] at h;exact absurd h g1
 rw[if_neg g1] at h ⊢;by_cases g2:uO s a
 ·rw[if_pos g2] at h;cases h
 rw[if_neg g2] at h ⊢;by_cases g3:aJ v.ns a.root<0
 ·rw[if_pos g3] at h;cases h
 rw[if_neg g3] at h ⊢;by_cases g4:aJ v.ns a.target.root<0
 ·rw[if_pos g4] at h;cases h
 rw[if_neg g4] at h ⊢;by_cases g5:a.slot<(nd v.ns (aJ v.ns a.root)).block.slot
 ·rw[if_pos g5] at h;cases h
 rw[if_neg g5] at h ⊢;by_cases g6:Dh v.ns (aJ v.ns a.root) (wN s a.target.aI).1≠aJ v.ns a.target.root
 ·rw[if_pos g6] at h;cases h
 rw[if_neg g6];exact⟨g2,by omega,by omega,Classical.not_not.1 g6,rfl⟩
theorem aFS {s:aM} {v:SV} {a:oY} {V:List Int} (h:¬(qY s v a V).2=0):(qY s v a V).1=false:=by
 unfold qY at h ⊢
 by_cases g1:Dy V (ol v.B).length≠0
 ·rw[if_pos g1]
 rw[if_neg g1] at h ⊢;by_cases g2:uO s a
 ·rw[if_pos g2]
 rw[if_neg g2] at h ⊢;by_cases g3:aJ v.ns a.root<0
 ·rw[if_pos g3]
 rw[if_neg g3] at h ⊢;by_cases g4:aJ v.ns a.target.root<0
 ·rw[if_pos g4]
 rw[if_neg g4] at h ⊢;by_cases g5:a.slot<(nd v.ns (aJ v.ns a.root)).block.slot
 ·rw[if_pos g5]
 rw[if_neg g5] at h ⊢;by_cases g6:Dh v.ns (aJ v.ns a.root) (wN s a.target.aI).1≠aJ v.ns a.target.root
 ·rw[if_pos g6]
 rw[if_neg g6] at h;exact absurd rfl h
theorem bnn (b:Bool):(!b == b)=false:=by cases b<;>rfl
theorem c9 (l:List Int) (k:Int) (hl:(l.length:Int)≤9223372036854775807):aB Tryz.prog 9 [.sl l.length (aH l),.v (.int .i64 k)]=some (.v (.bool true)):=by
 obtain⟨t,v,Q,R,hy,T⟩:=x24 l hl
 have H4:=kx hy (cK (Dm l)) T.td.flat
 obtain⟨b0,b1⟩:=sL k 16777215 (by decide)
 obtain⟨kk,JX⟩:∃kk,IntKind.i64.wrap ((BitVec.ofInt IntKind.i64.bits k &&& BitVec.ofInt IntKind.i64.bits 16777215).toNat:Int)=kk:=⟨_,rfl⟩
 rw[JX] at b0;obtain⟨y,hy2,a,V,rfl,ha,hV,Qt,het⟩:=x37 T.gi T.rg T.toTI0.iA kk b0
 have fa:Flat (.agg (eH a)):=(qE a).2 (by rw[ha];exact bE _)
 have u7:=kx hy2 (bA T.gi.sd.flat (.v _)) fa
 have nV:((ol (some V)).length:Int)<1000000:=by show (V.length:Int)<_;omega
 have Ec:Rg t.store.now:=⟨T.rg.now.1,by have:=T.rg.now.2;omega⟩
 have ka:=k38 T.gi.sd T.gi.up T.gi.To T.gi.jK Ec a Qt (some V) ha nV
 obtain⟨r,hr⟩:∃r,qY t.store v a (ol (some V))=r:=⟨_,rfl⟩
 rw[hr] at ka;by_cases g:r.2=0
 case neg =>
  have g1:r.1=false:=by have:=aFS (V:=ol (some V)) (by rw[hr];exact g);rw[hr] at this;exact this
  rw[cL Tryz.func9 rfl ok9 rfl];refine jB ?_
  simp only[Z8,seval,H4,JX,u7,ka,bf g,g1,k41,Xf,dM];exact⟨_,bP rfl (by simp only[E8,seval]<;>rfl) (by first|exact .v _|simp only[eA]),rfl⟩
 obtain⟨h1,h2,h3,h4,h5⟩:=aBW (V:=ol (some V)) (by rw[hr];exact g)
 rw[hr] at h5;have hn:=T.gi.sd.nn
 have rr:=dJ v.ns a.root
 have rt:=dJ v.ns a.target.root
 obtain⟨f1,f2,f3⟩:=Q3 T.gi.up T.gi.To _ _ h3 _ _ rfl h2 rr.2 h4
 have e1:a.target.aI=mO t.store a.slot:=Classical.not_not.1 fun h=>h1 (.inl h)
 have rH:=P4 (s:=t.store) T.gi.jK het.1 (Int.le_of_eq e1) Qt
 have hw:IntKind.u64.wrap (a.target.aI * t.store.cFg.jK)=(wN t.store a.target.aI).1:=by
  rw[rH.1];exact zP _ (Int.mul_nonneg het.1 (by have:=T.gi.jK.1;omega)) (by have:=rH.2;have:=Qt.2;omega)
 have rN:=TV T.gi.jK Ec
 have nS:mO t.store t.store.now≤1099511627776:=by
  have h1:mO t.store t.store.now=t.store.now / t.store.cFg.jK:=by
   unfold mO;rw[Int.tdiv_eq_ediv_of_nonneg Ec.1];exact zP _ (Int.ediv_nonneg Ec.1 (by have:=T.gi.jK.1;omega)) (Int.lt_of_le_of_lt (Int.ediv_le_self _ Ec.1) Ec.2)
  rw[h1];exact Int.le_trans (Int.ediv_le_self _ Ec.1) T.rg.now.2
 have e2:a.target.aI≤mO t.store t.store.now∧mO t.store t.store.now≤a.target.aI+1:=by
  by_cases e:a.target.aI=mO t.store t.store.now
  ·omega
  ·have h6:¬(mO t.store t.store.now=0∨a.target.aI≠IntKind.u64.wrap (mO t.store t.store.now-1)):=fun h=>h1 (.inr ⟨e,h⟩)
   rw[not_or] at h6;have h7:=Classical.not_not.1 h6.2
   rw[zP _ (by have:=rN.1;omega) (by have:=rN.2;omega)] at h7
   omega
 have DA:IntKind.u64.wrap (a.target.aI+1)=a.target.aI+1:=zP _ (by have:=het.1;omega) (by omega)
 have q1:¬mO t.store t.store.now<a.target.aI:=by omega
 have q2:¬a.target.aI+1<mO t.store t.store.now:=by omega
 have hep:IntKind.u64.wrap (t.store.now.tdiv t.store.cFg.jK)=mO t.store t.store.now:=rfl
 have q3:¬(wN t.store a.target.aI).1<(nd v.ns (aJ v.ns a.target.root)).block.slot:=by omega
 have g1:¬aJ v.ns a.root<0:=by omega
 have g2:¬aJ v.ns a.target.root<0:=by omega
 have Ff:=T.gi.sp
 by_cases c:aJ v.ns a.target.root=aJ v.ns a.root
 ·have hH:Ad v.ns (aJ v.ns a.target.root) (aJ v.ns a.root)=-1:=if_pos (.inl c)
  have hH0:Ad v.ns (aJ v.ns a.target.root) (aJ v.ns a.root)<0:=by rw[hH];decide
  rw[cL Tryz.func9 rfl ok9 rfl];refine jB ?_
  simp only[Z8,seval,H4,JX,u7,ka,bt g,h5,k41,Xf,Q2,bnn,dM,T.gi.sd.tree,iY _ _ hn,rV _ T.gi.up hn,k48 _ T.gi.up hn,g1,g2,f1,h3,rt.2,hw,DA,hep,Ff,q1,q2,q3,hH0];exact⟨_,bP rfl (by simp only[E8,seval]<;>rfl) (by first|exact .v _|simp only[eA]),rfl⟩
 ·have hF:=(f3.resolve_left c) (aJ v.ns a.root).toNat (Nat.le_refl _)
  have hH:Ad v.ns (aJ v.ns a.target.root) (aJ v.ns a.root)=Ms v.ns (aJ v.ns a.target.root) (aJ v.ns a.root).toNat (aJ v.ns a.root):=if_neg (by rintro (h|h);exact c h;rw[f1] at h;cases h)
  rw[← hH] at hF;obtain⟨p1,p2,p3⟩:=hF
  have hH0:¬Ad v.ns (aJ v.ns a.target.root) (aJ v.ns a.root)<0:=by omega
  rw[cL Tryz.func9 rfl ok9 rfl];refine jB ?_
  simp only[Z8,seval,H4,JX,u7,ka,bt g,h5,k41,Xf,Q2,bnn,dM,T.gi.sd.tree,iY _ _ hn,rV _ T.gi.up hn,k48 _ T.gi.up hn,g1,g2,f1,h3,rt.2,hw,DA,hep,Ff,q1,q2,q3,hH0,p1,p2,p3];exact⟨_,bP rfl (by simp only[E8,seval]<;>rfl) (by first|exact .v _|simp only[eA]),rfl⟩
theorem c8 (l:List Int) (a:oY) (k:Int) (hl:(l.length:Int)≤9223372036854775807) (V:List Int) (ha:a.dX=ov aH (some V)) (rs:Rg a.slot):aB Tryz.prog 8 [.sl l.length (aH l),.agg (eH a),.v (.int .i64 k)]=some (.v (.bool true)):=by
 obtain⟨sl,rt,tg,vs⟩:=a
 have ha:vs=ov aH (some V):=ha
 have rs:Rg sl:=rs
 subst ha;obtain⟨t,v,Q,R,hy,T⟩:=x24 l hl
 have H4:=kx hy (cK (Dm l)) T.td.flat
 have wJ:(0:Int)<(v.ns.length:Int):=by have:=T.gi.pos;omega
 have gR:¬((v.ns.length:Int)=0):=by omega
 obtain⟨b0,b1⟩:=sL (k.fdiv (2 ^ min 8 IntKind.i64.bits)) 255 (by decide)
 obtain⟨kk,JX⟩:∃kk,IntKind.i64.wrap ((BitVec.ofInt IntKind.i64.bits (k.fdiv (2 ^ min 8 IntKind.i64.bits)) &&& BitVec.ofInt IntKind.i64.bits 255).toNat:Int)=kk:=⟨_,rfl⟩
 rw[JX] at b0;obtain⟨m1,m2⟩:=eC (n:=(v.ns.length:Int)) b0 wJ
 obtain⟨p,hp⟩:∃p,kk.tmod (v.ns.length:Int)=p:=⟨_,rfl⟩
 rw[hp] at m1 m2;obtain⟨b2,b3⟩:=sL (k.fdiv (2 ^ min 16 IntKind.i64.bits)) 255 (by decide)
 obtain⟨kj,hkj⟩:∃kj,IntKind.i64.wrap ((BitVec.ofInt IntKind.i64.bits (k.fdiv (2 ^ min 16 IntKind.i64.bits)) &&& BitVec.ofInt IntKind.i64.bits 255).toNat:Int)=kj:=⟨_,rfl⟩
 rw[hkj] at b2;obtain⟨m3,m4⟩:=eC (n:=(v.ns.length:Int)) b2 wJ
 obtain⟨p',QZ⟩:∃p',kj.tmod (v.ns.length:Int)=p':=⟨_,rfl⟩
 rw[QZ] at m3 m4;have fs:=T.gi.sd.flat
 have Ec:Rg t.store.now:=⟨T.rg.now.1,by have:=T.rg.now.2;omega⟩
 have Ff:=T.gi.sp
 have AO:=T.gi.sd.iA
 by_cases hV:(50:Int)<(V.length:Int)
 ·rw[cL Tryz.func8 rfl ok8 rfl];refine jB ?_
  simp only[Z8,seval,H4,rW,hV,k41];exact⟨_,bP rfl (by simp only[E8,seval]<;>rfl) (by first|exact .v _|simp only[eA]),rfl⟩
 have nV:((ol (some V)).length:Int)<1000000:=by show (V.length:Int)<_;omega
 have fr:∀x y:Value,Flat (.eE [.v x,.v y]):=fun x y=>.eE _ (bA (.v _) (.v _))
 have fR:∀(x:Bool) (y:Int),Gh (.eE [.v (.bool x),.v (.int .i64 y)]):=fun x y z hz=>by
  rcases List.mem_cons.1 hz with rfl|hz
  ·exact gE.v _
  ·rw[List.mem_singleton.1 hz];exact gE.v _
 obtain⟨B0,B1⟩:=T.toTI0.iA
 obtain⟨Z,kl,hZ⟩:=k45 (ol v.B).length (k.fdiv (2 ^ min 4 IntKind.i64.bits)) (by omega) (by omega)
 have nZ:((ol (some Z)).length:Int)<1000000:=by show (Z.length:Int)<_;omega
 have ka:∀(sl:Int) (rt:bX) (tg:fB),Rg sl→∀(st:St) (d:Option Nat),aN (aB Tryz.prog) 38 [.agg (aA t.store),.agg (eH ⟨sl,rt,tg,ov aH (some V)⟩)] st d=_:=fun sl rt tg h=>k38 T.gi.sd T.gi.up T.gi.To T.gi.jK Ec ⟨sl,rt,tg,ov aH (some V)⟩ h (some V) rfl nV
 have kb:∀(sl:Int) (rt:bX) (tg:fB) (st:St) (d:Option Nat),aN (aB Tryz.prog) 39 [.agg (aA t.store),.agg (eH ⟨sl,rt,tg,ov aH (some V)⟩)] st d=_:=fun sl rt tg=>kx (c39 T.gi.sd T.gi.up T.gi.sp ⟨sl,rt,tg,ov aH (some V)⟩ (some V) rfl nV) (bA fs ((qE _).2 (bE (some V)))) (.eE _ (bA (.v _) (.v _)))
 have kc:∀(sl:Int) (rt:bX) (tg:fB),Rg sl→∀(st:St) (d:Option Nat) (x g:Nat),st.heap x g=some (.row 3 1 Z.length (aH Z))→aN (aB Tryz.prog) 38 [.agg (aA t.store),.agg (eH ⟨sl,rt,tg,.own x g⟩)] st d=_:=fun sl rt tg h st d x g hh=>He fs ⟨sl,rt,tg,ov aH (some Z)⟩ (L:=Z) (c38 T.gi.sd T.gi.up T.gi.To T.gi.jK Ec ⟨sl,rt,tg,ov aH (some Z)⟩ h (some Z) rfl nZ) (fR _ _) (fr _ _) st d x g hh
 have kd:∀(sl:Int) (rt:bX) (tg:fB) (st:St) (d:Option Nat) (x g:Nat),st.heap x g=some (.row 3 1 Z.length (aH Z))→aN (aB Tryz.prog) 39 [.agg (aA t.store),.agg (eH ⟨sl,rt,tg,.own x g⟩)] st d=_:=fun sl rt tg st d x g hh=>He fs ⟨sl,rt,tg,ov aH (some Z)⟩ (L:=Z) (c39 T.gi.sd T.gi.up T.gi.sp ⟨sl,rt,tg,ov aH (some Z)⟩ (some Z) rfl nZ) (fR _ _) (fr _ _) st d x g hh
 rw[cL Tryz.func8 rfl ok8 rfl];refine jB ?_
 cases h1:(IntKind.i64.wrap ((BitVec.ofInt IntKind.i64.bits k &&& BitVec.ofInt IntKind.i64.bits 1).toNat:Int) == 1) <;>
 cases h2:(IntKind.i64.wrap ((BitVec.ofInt IntKind.i64.bits k &&& BitVec.ofInt IntKind.i64.bits 2).toNat:Int) == 2) <;>
 cases h3:(IntKind.i64.wrap ((BitVec.ofInt IntKind.i64.bits k &&& BitVec.ofInt IntKind.i64.bits 4).toNat:Int) == 4) <;>
 cases h4:(IntKind.i64.wrap ((BitVec.ofInt IntKind.i64.bits k &&& BitVec.ofInt IntKind.i64.bits 8).toNat:Int) == 8)
 all_goals
  simp only[Z8,seval,H4,rW,hV,JX,hp,gR,m1,m2,hkj,QZ,m3,m4,h1,h2,h3,h4,T.gi.sd.tree,AO,Ff,kl,ka,kb,kc,kd,rs,jJ,k41,beB,Q2,Xf,dM,beq_self_eq_true];exact⟨_,bP rfl (by simp only[E8,seval]<;>rfl) (.v _),rfl⟩
end Go.Ab.Tryz
namespace Go.Ab.Tryz
open Classical Go Go.Proofs Go.WideShapes Go.ChangeShapes Go.Ab
theorem MX:∀els:List (List AV),(∀l∈els,nY [some .i64] l)→∃ns:List Int,els=ns.map oZ
 | [],_=>⟨[],rfl⟩
 | l :: r,h=>by
   obtain⟨x,rfl⟩:=aBY (h l (by simp))
   obtain⟨ns,rfl⟩:=MX r fun m hm=>h m (by simp[hm])
   exact⟨x :: ns,rfl⟩
theorem Sr {C:Ctx} {ks:List (Option IntKind)} {cs:List Value} {l:List AV} (h:yY ks cs) (e:cs.map AV.v=l):fG C l cs:=by
 rw[← e];exact fG.vs C cs h.2
theorem aBZ {H:Type} {enc:TypeId × Value→H} {w:World} {base:Nat} {sp:Nat→Bool} {held:Bool} {v:Value} {d:DataW H} {p:List MemPlace}
 {W2:World} {r:Reach} {b2:Nat} (hv:Value.okWide Tryz.prog W2 r b2 87 v) (h:DataW.Trod enc Tryz.prog w base sp held 87 v d p) :
 ∃(a:oY) (V:List Int),a.dX=ov aH (some V)∧Rg a.slot∧cM (bare fun b o=>w.heap[b]? = some o) (.agg (eH a)) v:=by
 have hu:∃f0 f1 f2 f3:Field,Tryz.prog.underlying 87=some (.struct #[f0,f1,f2,f3])∧(f0.offset=0∧f0.type=23)∧(f1.offset=1∧f1.type=27)∧(f2.offset=33∧f2.type=41)∧f3.offset=66∧f3.type=22:=⟨_,_,_,_,Tryz.underlying87,⟨rfl,rfl⟩,⟨rfl,rfl⟩,⟨rfl,rfl⟩,rfl,rfl⟩
 obtain⟨f0,f1,f2,f3,hu,⟨o0,t0⟩,⟨o1,t1⟩,⟨o2,t2⟩,o3,t3⟩:=hu
 have YG:Tryz.prog.cellsOf 87=67:=by kernel_rfl
 have s0:Tryz.prog.cellsOf 23=1:=by kernel_rfl
 have s1:Tryz.prog.cellsOf 27=32:=by kernel_rfl
 have s2:Tryz.prog.cellsOf 41=33:=by kernel_rfl
 have s3:Tryz.prog.cellsOf 22=1:=by kernel_rfl
 unfold Value.okWide at hv;rw[hu] at hv;obtain⟨cs,rfl,AS,_⟩:=hv
 obtain⟨m,hm⟩:=h
 obtain⟨xs,n,_,_,hl,hlen,hf⟩:=DataW.trod_struct hu hm
 have hlen:xs.length=4:=hlen
 have g0:=hf 0 f0 rfl
 have g1:=hf 1 f1 rfl
 have g2:=hf 2 f2 rfl
 have g3:=hf 3 f3 rfl
 rw[t0,o0,s0,List.getElem?_eq_getElem (by omega)] at g0
 rw[t1,o1,s1,List.getElem?_eq_getElem (by omega)] at g1
 rw[t2,o2,s2,List.getElem?_eq_getElem (by omega)] at g2
 rw[t3,o3,s3,List.getElem?_eq_getElem (by omega)] at g3
 obtain⟨L,hL⟩:∃L:List Value,cs.toList=L:=⟨_,rfl⟩
 have hL2:(Value.agg cs).cells.toList=L:=hL
 have hl67:L.length=67:=by rw[← hL];simpa [YG] using AS
 rw[hL2] at g0 g1 g2 g3;obtain⟨sl,e0,_,wf⟩:=DataW.trod_int Tryz.underlying23 g0
 have k1:=Ei 12 27 (List.replicate 32 (some .u8)) _ _ _ (by kernel_rfl) g1
 have k2:=Ei 12 41 Q4 _ _ _ (by kernel_rfl) g2
 obtain⟨els,v,hc,h1,hk,hle,hr⟩:=y7 (d:=12) (ks:=[some .i64]) (e:=3) Tryz.underlying22 (by kernel_rfl) (by kernel_rfl) (by decide) g3
 obtain⟨V,rfl⟩:=MX els hk
 obtain⟨rt,e1⟩:=MY k1.1
 obtain⟨tg,e2⟩:=Q5 k2.1
 have he:(V.map oZ).flatten=aH V:=by simp[aH,List.flatMap]
 rw[he,List.length_map] at hr;have hsplit:L=(L.drop 0).take 1++((L.drop 1).take 32++((L.drop 33).take 33++(L.drop 66).take 1)):=by
  have a1:L=L.take 1++L.drop 1:=(List.take_append_drop 1 L).symm
  have a2:L.drop 1=(L.drop 1).take 32++L.drop 33:=by rw[show L.drop 33=(L.drop 1).drop 32 by rw[List.drop_drop]];exact (List.take_append_drop 32 _).symm
  have a3:L.drop 33=(L.drop 33).take 33++L.drop 66:=by rw[show L.drop 66=(L.drop 33).drop 33 by rw[List.drop_drop]];exact (List.take_append_drop 33 _).symm
  have a4:(L.drop 66).take 1=L.drop 66:=List.take_of_length_le (by simp;omega)
  rw[a4,← a3,← a2,List.drop_zero,← a1]
 have cell:fG (bare fun b o=>w.heap[b]? = some o) (eH ⟨sl,rt,tg,ov aH (some V)⟩) L:=by
  rw[hsplit,e0,hc];exact (fG.vs _ [.int .u64 sl] (by simp[Value.oneCell'])).app ((Sr k1 e1).app ((Sr k2 e2).app (.single hr h1)))
 refine⟨⟨sl,rt,tg,ov aH (some V)⟩,V,rfl, ?_,.agg _ _ (by rw[cell.len,← hL];simp) (fun i x y hx hy=>cell.rel i x y hx (by rw[← hL];simpa using hy)) (fun i y hy=>cell.one i y (by rw[← hL];simpa using hy))⟩
 have hw:IntKind.u64.min≤sl∧sl≤IntKind.u64.max:=by simpa [Lit.wf] using wf
 simp only[IntKind.min,IntKind.max,IntKind.signed,IntKind.bits] at hw;simp at hw
 exact⟨by show (0:Int)≤sl;omega,by show sl<_;omega⟩
end Go.Ab.Tryz
