/-
  Part 18 of the proof: an evaluator of programs, its soundness, and what functions of this program compute.
-/
import Derived.Test.YthkgnakbkaafgaaGreatK17
import Derived.Test.YthkgnakbkaafgaaGreatK12
import Derived.Test.YthkgnakbkaafgaaGreatK15
set_option linter.all false
set_option maxRecDepth 20000
set_option maxHeartbeats 40000000
open Go.IntKind (i64 u8)
open List Go.Proofs.Tryz
namespace Go.Ab.Tryz
open Classical Go.Proofs Go.Ab
variable {s:aF} {v:SV} {q i b:Int} {st:St} {k T:Nat} {ns a r:List Node} {m:List Bool} {call:Nat->List AV->Option AV} {ops:Array Oper} {pos:String} {aft:Array Edge} {l:List Int} {t:State} {Q R:Option (List Request)}
def a4V (w:List Int):Flat (.sl w.length (bD w)):=.sl _ _ (fB _)
def a4W (ns:List Node) (hu:eK ns) (X:(nd ns 0).up=-1) (M:bg ns.length) (w:List Int) (hw:w.length=ns.length) (b:List Bool) (hb:b.length=ns.length) (i:Int) (i0:0<=i) :
 ∃r,aA prog 106 [ak ⟨ns⟩,.sl w.length (bD w),.sl b.length (iJ b),aa i]=some r/\∃k:Int,r=aa k/\(k=-1\/(i<k/\0<=k/\k<ns.length/\gx false b k=true)):=by
 obtain⟨_,G,o,rfl,hno,Ry,u⟩:=a4T ns hu X M i i0
 have h171:∀c C:Int,0<=c->c<ns.length->0<=C->C<ns.length->∃z:Bool,∀(st:St) (d:Option Nat),aO (aA prog) 171 [ak ⟨ns⟩,.sl w.length (bD w),aa c,aa C] st d=some { dst:=d,val:=ae z}:=fun c C p c1 b0 b1=>by
  obtain⟨_,h,z,rfl⟩:=a4S ns w hw c C p c1 b0 b1
  exact⟨z,kx h (aNH (gZ _) (a4V w) (.v _) (.v _)) (.v _)⟩
 rw[dJ prog func106 rfl WP _ (cF _ _) rfl]
 cases o with
 | none =>
   have W:=kx G (aU (gZ _) (.v _)) (.v _)
   simp only[Z8,seval,W];refine bP (fun m st=>st.env 9=aa (-1)/\st.env 15=aa 0/\st.env 16=aa 0/\m=0) (fun e st=>e=.exit 0/\st.env 9=aa (-1)) 0 ?step ?start ?rest
   case step =>
    rintro m st ⟨R,h10,h11,_⟩
    apply oT (.exit 0)
    ·simp only[Z8,seval,R,h10,h11,Int.lt_irrefl];rfl
    ·exact⟨rfl,nw⟩
   case start=>exact⟨Wl,Wl,Wl,rfl⟩
   case rest =>
    rintro e st ⟨rfl,R⟩
    simp only[Z8,seval,R];exact⟨_,bE rfl xz (by first|exact .v _|simp only[sB,R]),-1,rfl,.inl rfl⟩
 | some l =>
   have W:∀(st:St) (d:Nat),aO (aA prog) 170 [ak ⟨ns⟩,aa i] st (some d)=_:=fun st d=>gA (st:=st) (d:=d) (aU (gZ _) (.v _)) G
   rw[dK] at Ry u;simp only[Z8,seval,W];refine bP (fun m st=>∃(k:Nat) (C:Int),(st.env 4=.ptr 4 0 0/\st.heap 4 0=some (.cells (bN ⟨ns⟩))/\st.env 1=.sl w.length (bD w)/\st.env 2=.sl b.length (iJ b)/\st.env 14=.own 14 0/\st.heap 14 0=some (.row 3 1 l.length (aH l))/\st.env 9=aa C/\st.env 15=aa l.length/\st.env 16=aa k)/\(C=-1\/(i<C/\0<=C/\C<ns.length/\gx false b C=true))/\k<=l.length/\m=l.length-k)
    (fun e st=>e=.exit 0/\∃C:Int,st.env 9=aa C/\(C=-1\/(i<C/\0<=C/\C<ns.length/\gx false b C=true))) l.length ?step ?start ?rest
   case step =>
    rintro m st ⟨k,C,D,N,hk,hm⟩
    by_cases A:(k:Int)<l.length
    case neg =>
     apply oT (.exit 0)
     ·simp only[Z8,seval,D,A];rfl
     ·exact⟨rfl,C,XC,N⟩
    have q0:(0:Int)<=k:=WF
    have S:=wk (k:=k) WF
    have gi:=qH q0 A
    obtain⟨c,Y⟩:∃c,it l (k:Int)=c:=⟨_,rfl⟩
    have G:=u c (by rw[<- Y];obtain⟨J,h2⟩:=zD q0 A;rw[h2];exact getElem_mem J)
    obtain⟨p,c1,c2⟩:=G
    have c3:c<(w.length:Int):=by rw[hw];exact c2
    have c4:c<(b.length:Int):=by rw[hb];exact c2
    cases g1:gx false b c
    ·apply oN (l.length-(k+1))
     ·simp only[Z8,seval,D,A,q0,gi,Y,c1,c3,c4,g1,S,mF,mG];rfl
     ·exact⟨k+1,C,qd,N,WF,rfl⟩
    by_cases g2:C<0
    ·apply oN (l.length-(k+1))
     ·simp only[Z8,seval,D,A,q0,gi,Y,c1,c3,c4,g1,g2,S,mF,mG];rfl
     ·exact⟨k+1,c,qd,.inr ⟨p,c1,c2,g1⟩,WF,rfl⟩
    have b1:0<=C:=WF
    have b2:C<ns.length:=WF
    obtain⟨z,k171⟩:=h171 c C c1 c2 b1 b2
    cases z
    ·apply oN (l.length-(k+1))
     ·simp only[Z8,seval,D,A,q0,gi,Y,c1,c3,c4,g1,g2,k171,S,mF,mG];rfl
     ·exact⟨k+1,C,qd,N,WF,rfl⟩
    ·apply oN (l.length-(k+1))
     ·simp only[Z8,seval,D,A,q0,gi,Y,c1,c3,c4,g1,g2,k171,S,mF,mG];rfl
     ·exact⟨k+1,c,qd,.inr ⟨p,c1,c2,g1⟩,WF,rfl⟩
   case start=>exact⟨0,-1,wx,.inl rfl,WF,WF⟩
   case rest =>
    rintro e st ⟨rfl,C,R,N⟩
    simp only[Z8,seval,R];exact⟨_,bE rfl xz (by first|exact .v _|simp only[sB,R]),C,rfl,N⟩
def aDj (l:Nat) (st:St):wP prog (.label l) st=some (.normal,st):=aDk prog l st
def aDl (b:Code) (st:St):wP prog (.scope b) st=wP prog b st:=aDm prog b st
def x57 (h:KI s v q) (vs:VS s v) (bp:0<=s.cFg.pO):∃r,aA prog 57 [bc s]=some r/\∃k:Int,r=aa k/\0<=k/\k<v.ns.length/\(nd v.ns k).status≠2:=by
 have W:=h.gi.sd.flat
 have M:=h.gi.sd.nn
 obtain⟨r1,e1,w,rfl,hw⟩:=a4w h bp
 obtain⟨r2,e2,b,rfl,hb,N⟩:=a4U h vs
 have u:∀(st:St) (d:Nat),aO (aA prog) 103 [bc s] st (some d)=_:=fun st d=>gA (st:=st) (d:=d) (bZ W) e1
 have k104:∀(st:St) (d:Nat),aO (aA prog) 104 [bc s] st (some d)=_:=fun st d=>gA (st:=st) (d:=d) (bZ W) e2
 have hB:∀i:Int,0<=i->∃k:Int,aA prog 106 [ak ⟨v.ns⟩,.sl w.length (bD w),.sl b.length (iJ b),aa i]=some (aa k)/\(k=-1\/(i<k/\0<=k/\k<v.ns.length/\gx false b k=true)):=fun i i0=>by
  obtain⟨r,X,k,rfl,R⟩:=a4W v.ns h.gi.up h.gi.Nv M w hw b hb i i0
  exact⟨k,X,R⟩
 have Y:∀(i:Int) (k:Int),aA prog 106 [ak ⟨v.ns⟩,.sl w.length (bD w),.sl b.length (iJ b),aa i]=some (aa k)->∀(st:St) (g1 g2:Nat) (d:Option Nat),st.heap 8 g1=some (.row 23 1 w.length (bD w))->st.heap 10 g2=some (.row 4 1 b.length (iJ b)) ->
  aO (aA prog) 106 [ak ⟨v.ns⟩,.own 8 g1,.own 10 g2,aa i] st d=some { dst:=d,val:=aa k}:=by
  intro i k R st g1 g2 d C p;rw[dZ,map_cons,map_cons,map_cons,map_cons,map_nil,vB,oB,C,zA,oB,p,RN,xA,aM,aM,aM,aM,dB];exact zP R
 rw[dJ prog func57 rfl WP _ (cF _ _) rfl]
 simp only[Z8,seval,u,k104,h.gi.sd.tree,aDj,aDl,lX _ _ M];refine bP (fun m st=>∃i:Int,(st.env 1=.ptr 1 0 0/\st.heap 1 0=some (.cells (aB s))/\st.env 3=.own 8 0/\st.heap 8 0=some (.row 23 1 w.length (bD w))/\st.env 4=.own 10 0/\st.heap 10 0=some (.row 4 1 b.length (iJ b))/\st.env 5=aa i)/\(0<=i/\i<v.ns.length/\(nd v.ns i).status≠2)/\m=v.ns.length-i.toNat)
  (fun e st=>e=.exit 0/\∃i:Int,st.env 5=aa i/\0<=i/\i<v.ns.length/\(nd v.ns i).status≠2) (v.ns.length-(aD v.ns s.aL.dX.root).toNat) ?step ?start ?rest
 case step =>
  rintro m st ⟨i,D,⟨i0,i1,i2⟩,hm⟩
  obtain⟨k,R,S⟩:=hB i i0
  have J:=Y i k R
  by_cases A:k<0
  ·apply oT (.exit 0)
   ·simp only[Z8,seval,D,h.gi.sd.tree,J,A];rfl
   ·exact⟨rfl,i,XC,i0,i1,i2⟩
  ·have G:0<=k:=WF
   obtain⟨k1,_,l,k3⟩:=S.resolve_left WF
   apply oN (v.ns.length-k.toNat)
   ·simp only[Z8,seval,D,h.gi.sd.tree,J,A];rfl
   ·exact⟨k,XC,⟨G,l,N k G l k3⟩,rfl⟩
 case start=>exact⟨_,wx,⟨h.gi.dX,(cB _ _).2,vs.js⟩,rfl⟩
 case rest =>
  rintro e st ⟨rfl,i,h2,hi⟩
  simp only[Z8,seval,h2];exact⟨_,bE rfl Qbn (by first|exact .v _|simp only[sB,h2]),i,rfl,hi⟩
def a4X (h:SD s v):∃r,aA prog 120 [bc s]=some r/\∃r':bU,r=.agg (aW r')/\(r'=s.aL.dX.root\/r'=bQ/\¬(0<=aD v.ns s.aL.dX.root/\(nd v.ns (aD v.ns s.aL.dX.root)).status=1)):=by
 have hf:=h.flat
 rw[dJ prog func120 rfl WP _ (cF _ _) rfl]
 by_cases g1:aD v.ns s.aL.dX.root<0
 ·simp only[Z8,seval,h.tree,lX _ _ h.nn,g1];exact⟨_,iI rfl Wl qk wv,_,rfl,.inr ⟨rfl,fun h=>WF⟩⟩
 have q0:0<=aD v.ns s.aL.dX.root:=WF
 have S:=(cB v.ns s.aL.dX.root).2
 by_cases g2:(nd v.ns (aD v.ns s.aL.dX.root)).status=1
 ·simp only[Z8,seval,h.tree,lX _ _ h.nn,g1,q0,S,bt g2];exact⟨_,iI rfl Wl qk wv,_,rfl,.inl rfl⟩
 ·simp only[Z8,seval,h.tree,lX _ _ h.nn,g1,q0,S,bf g2];exact⟨_,iI rfl Wl qk wv,_,rfl,.inr ⟨rfl,fun h=>vq⟩⟩
def Pc (s:aF) (v:SV) (c:Command):Prop:=(∃k:Int,0<=k/\k<v.ns.length/\(nd v.ns k).status≠2/\c.head=(nd v.ns k).block.root)/\(c.safe=s.aL.dX.root\/c.safe=bQ/\¬(0<=aD v.ns s.aL.dX.root/\(nd v.ns (aD v.ns s.aL.dX.root)).status=1))/\c.fin=s.aL.fin.root
def x64 (h:KI s v q) (vs:VS s v) (bp:0<=s.cFg.pO):∃r,aA prog 64 [bc s]=some r/\∃c:Command,r=.agg (cX c)/\Pc s v c:=by
 have W:=h.gi.sd.flat
 obtain⟨r1,A,k,rfl,G,k1,l⟩:=x57 h vs bp
 have J:=kx A (bZ W) (.v _)
 obtain⟨r2,M,r,rfl,X⟩:=a4X h.gi.sd
 have C:=kx M (bZ W) (oE r)
 rw[dJ prog func64 rfl WP _ (cF _ _) rfl]
 simp only[Z8,seval,J,C,h.gi.sd.tree,G,k1];exact⟨_,iI rfl (by simp only[E8,seval,Wk]<;>rfl) (by simp only[Z8,seval,Wk]<;>rfl) (by grind [Wk]),⟨_,r,s.aL.fin.root⟩,rfl,⟨k,G,k1,l,rfl⟩,X,rfl⟩
theorem W3 (l:List Int):bM ((aH l).map V4)=some l:=by
 rw[Ky];induction l<;>grind [V4,bM]
theorem Ww (l:List Int):(aH l).reverse=aH l.reverse:=by rw[Ky,Ky,List.map_reverse]
theorem aPD (l:List Int):aA prog 335 [.uniq 3 1 l.length (aH l)]=some (.cY [.uniq 3 1 l.length (aH l.reverse)]):=by
 refine Fz prog ?_
 show o0 335 _=_
 grind [o0,jx,W3,Bb,Ww]
def aXj {s:Nat} {d:Option Nat} (l:List Int) (h:st.heap s k=some (.row 3 1 l.length (aH l))):kU (aA prog) 335 [.own s k] st d=some { dst:=d,val:=.cY [],dE:=some (s,k,some (.row 3 1 l.length (aH l.reverse)))}:=by
 grind [kU,eP,aPD]
def a4Z (ns:List Node) (hu:eK ns) (hr:(nd ns 0).up=-1) (hn:bg ns.length) (i:Int) (i0:0<=i) (i1:i<ns.length):aA prog 295 [ak ⟨ns⟩,aa i]=some (.uniq 3 1 (path ns i).length (aH (path ns i))):=by
 rw[dJ prog func295 rfl WP _ (cF _ _) rfl]
 simp only[Z8,seval];refine gL (fun n st=>∃(c:Int) (l:List Int) (g:Nat),(st.env 1=aa c/\st.env 2=.ptr 2 0 0/\st.heap 2 0=some (.cells (bN ⟨ns⟩))/\st.env 5=rv 12 g (nz l))/\(l≠[]->g<st.aJ 12/\st.heap 12 g=some (.row 3 1 l.length (aH l)))/\path ns i=path ns c++l.reverse/\-1<=c/\c<ns.length/\n=(c+1).toNat)
  (fun e st=>e=.exit 0/\∃g,st.env 5=.own 12 g/\st.heap 12 g=some (.row 3 1 (path ns i).reverse.length (aH (path ns i).reverse))) (i+1).toNat ?step ?start ?rest
 case step =>
  rintro n st ⟨c,l,g,D,h5,hb,c0,c1,Rj⟩
  have A:bg l.length:=by have:=zZ hu i;grind
  have nE:l=[]->rv 12 g (nz l)=af:=fun h=>by rw[h];rfl
  have G:∀(m:List Int) g,m≠[]->rv 12 g (nz m)=.own 12 g:=fun m g h=>by rw[nz,if_neg h];rfl
  by_cases C:0<=c
  case neg =>
   have hd:(decide (0<=c) && decide (c<ns.length))=false:=qg
   rw[show path ns c=[] from sE WF,nil_append] at hb
   have W:(path ns i).reverse=l:=qg
   have S:l≠[]:=by grind [Mh]
   have u:=(h5 S).2
   rw[G l g S] at D;apply oT (.exit 0)
   ·simp only[Z8,seval,D,LI,hd];rfl
   ·exact⟨rfl,g,XC,by rw[W];simp only[E8,seval,u]⟩
  have hd:(decide (0<=c) && decide (c<ns.length))=true:=by simp[C,c1]
  have M:(nd ns c).up<c/\-1<=(nd ns c).up:=by
   by_cases h0:c=0
   ·grind
   ·have:=hu c WF c1;omega
  have hp:path ns c=path ns (nd ns c).up++[c]:=by
   grind [sE,lQ,iD]
  have r:path ns i=path ns (nd ns c).up++(l++[c]).reverse:=by rw[hb,hp];simp
  have y1:(nd ns c).up<ns.length:=WF
  by_cases he:l=[]
  ·rw[nE he] at D;apply oN (((nd ns c).up+1).toNat)
   ·simp only[Z8,seval,D,LI,hd,C,c1];rfl
   ·exact⟨(nd ns c).up,l++[c],_,Qbc,fun _=>by rw[he];exact⟨Yo,Wl⟩,r,M.2,y1,rfl⟩
  ·obtain⟨hg,u⟩:=h5 he
   rw[G l g he] at D;have N:(g=st.aJ 12)=False:=eq_false WF
   apply oN (((nd ns c).up+1).toNat)
   ·simp only[Z8,seval,D,u,N,Ai _ _ _ _ A,LI,hd,C,c1];rfl
   ·exact⟨(nd ns c).up,l++[c],_,Qbc,fun _=>⟨Yo,Wl⟩,r,M.2,y1,rfl⟩
 case start=>exact⟨i,[],0,wx,fun h=>absurd rfl h,qe,WF,i1,rfl⟩
 case rest =>
  rintro e st ⟨rfl,g,h5,R⟩
  simp only[Z8,seval,h5,R,aXj (path ns i).reverse,reverse_reverse,length_reverse];exact oH rfl Wl Wl (eP _)
def aXk (ns:List Node) (hu:eK ns) (X:(nd ns 0).up=-1) (M:bg ns.length) (i:Int) (i0:0<=i) (i1:i<ns.length) (st:St) (d:Nat):aO (aA prog) 295 [ak ⟨ns⟩,aa i] st (some d)=some { dst:=some d,val:=.own d (st.aJ d),new:=some (d,[.row 3 1 (path ns i).length (aH (path ns i))])}:=gA (aU (gZ _) (.v _)) (a4Z ns hu X M i i0 i1)
def de (ns:List Node) (i:Int) (k:Nat) (m:List Bool):Prop:=m.length=ns.length/\∀j:Int,0<=j->j<ns.length->gx false m j=(decide (j<k) && lN ns i j)
def de.A1 (h:de ns i k m) (hk:(k:Int)<ns.length) (Y:lN ns i k=true):de ns i (k+1) (m.set (k:Int).toNat true):=⟨by rw[length_set];exact h.1,fun j W J=>by
 by_cases e:(k:Int)=j
 ·subst e;rw[W0 (by rw[h.1];omega),Y]
  simp;omega
 ·have h2:=h.2 j W J
  have A:gx false (m.set (k:Int).toNat true) j=gx false m j:=by
   have:(k:Int).toNat≠j.toNat:=WF
   simp only[gx,getD_eq_getElem?_getD,getElem?_set_ne this]
  rw[A,h2];congr 1
  rw[decide_eq_decide];omega⟩
def de.aXl (h:de ns i k m) (Y:lN ns i k=false):de ns i (k+1) m:=⟨h.1,fun j W J=>by
 rw[h.2 j W J];by_cases e:j=(k:Int)
 ·subst e;rw[Y];simp
 ·congr 1
  rw[decide_eq_decide];omega⟩
def a42 (ns:List Node) (hu:eK ns) (X:(nd ns 0).up=-1) (hn:bg ns.length) (i:Int) (i0:0<=i) (i1:i<ns.length):aA prog 339 [ak ⟨ns⟩,aa i]=some (.uniq 3 1 (sY ns i ns.length).length (aH (sY ns i ns.length))):=by
 rw[dJ prog func339 rfl WP _ (cF _ _) rfl]
 have l:(decide (0<=i) && decide (i<ns.length))=true:=dv
 have m1:(ns.length:Int) * 1<=140737488355328:=WF
 have m2:(ns.length:Int)<=maxLen:=xm
 simp only[Z8,seval,LI,l,m1,m2,Int.natCast_nonneg,and_self,if_true,Int.toNat_natCast,mkB];refine gL (fun a st=>∃(k:Nat) (m:List Bool) (g:Nat),(st.env 1=aa i/\st.env 5=.own 16 0/\st.heap 16 0=some (.row 4 1 m.length (iJ m))/\st.env 18=.sl ns.length (bS ns)/\st.env 19=aa ns.length/\st.env 20=aa k/\st.env 6=rv 46 g (nz (sY ns i k))) /\
  (sY ns i k≠[]->g<st.aJ 46/\st.heap 46 g=some (.row 3 1 (sY ns i k).length (aH (sY ns i k))))/\de ns i k m/\k<=ns.length/\a=ns.length-k)
  (fun e st=>e=.exit 0/\∃g,st.env 6=.own 46 g/\st.heap 46 g=some (.row 3 1 (sY ns i ns.length).length (aH (sY ns i ns.length)))) ns.length ?step ?start ?rest
 case step =>
  rintro a st ⟨k,m,g,D,r,hm,hk,ha⟩
  have Q9:=Mn ns i k
  have J:bg (sY ns i k).length:=WF
  by_cases A:(k:Int)<ns.length
  case neg =>
   obtain rfl:k=ns.length:=WF
   have mC:=EK hu i0 i1 _ i1
   rw[show rv 46 g (nz (sY ns i ns.length))=.own 46 g by rw[nz,if_neg mC];rfl] at D
   have u:=(r mC).2
   apply oT (.exit 0)
   ·simp only[Z8,seval,D,A];rfl
   ·exact⟨rfl,g,XC,np⟩
  have hw:=wk (k:=k) WF
  have G:(0:Int)<=k:=WF
  have S:(k:Int)<m.length:=by rw[hm.1];exact A
  have hle:(k:Int).toNat+1<=m.length:=WF
  have M:=V9 m (k:Int) true WF
  have ls:(m.set (k:Int).toNat true).length=m.length:=length_set
  have A1:lN ns i k=true->sY ns i (k+1)=sY ns i k++[(k:Int)]:=fun h=>by simp only[sY,h,if_true]
  have p:lN ns i k=false->sY ns i (k+1)=sY ns i k:=fun h=>by simp only[sY,h,Bool.false_eq_true,if_false]
  have fin:∀h:lN ns i k=true,sY ns i (k+1)≠[]:=fun h=>by rw[A1 h];simp
  have N:sY ns i k≠[]->(g=st.aJ 46)=False:=fun h=>eq_false (by have:=(r h).1;omega)
  have nE:sY ns i k=[]->rv 46 g (nz (sY ns i k))=af:=fun h=>by rw[h];rfl
  have nN:sY ns i k≠[]->rv 46 g (nz (sY ns i k))=.own 46 g:=fun h=>by rw[nz,if_neg h];rfl
  have nH:∀g',lN ns i k=true->rv 46 g' (nz (sY ns i (k+1)))=.own 46 g':=fun g' h=>by rw[nz,if_neg (fin h)];rfl
  by_cases R:(k:Int)=i
  ·have hA:lN ns i k=true:=by rw[R];unfold lN;exact decide_eq_true (uU hu i0 i1)
   by_cases he:sY ns i k=[]
   ·rw[nE he] at D;apply oN (ns.length-(k+1))
    ·simp only[Z8,seval,D,A,G,hw,bt R,S,M,hle];rfl
    ·exact⟨k+1,m.set (k:Int).toNat true,_,yh,fun _=>Qah,hm.A1 A hA,WF,rfl⟩
   ·rw[nN he] at D;have u:=(r he).2
    apply oN (ns.length-(k+1))
    ·simp only[Z8,seval,D,u,N he,Ai _ _ _ _ J,A,G,hw,bt R,S,M,hle];rfl
    ·exact⟨k+1,m.set (k:Int).toNat true,_,yh,fun _=>Qap,hm.A1 A hA,WF,rfl⟩
  by_cases Y:0<=(nd ns (k:Int)).up
  case neg =>
   have pX:(k:Int)=0:=by
    rcases Int.lt_or_le 0 (k:Int) with h|h
    ·have:=(hu k h A).1;omega
    ·omega
   have hA:lN ns i k=false:=by
    rw[<- Bool.not_eq_true];intro h;have:=Qh hu h
    omega
   apply oN (ns.length-(k+1))
   ·simp only[Z8,seval,D,A,G,hw,bf R,Y];rfl
   ·exact⟨k+1,m,g,QbU,fun h=>Qb3,hm.aXl hA,WF,rfl⟩
  have C:0<(k:Int):=by
   rcases Int.lt_or_le 0 (k:Int) with h|h
   ·exact h
   ·rw[show (k:Int)=0 from WF,X] at Y;omega
  have W:=(hu k C A).2
  have u2:(nd ns (k:Int)).up<m.length:=WF
  have Nu:=CK (T:=4) (n:=m.length) (k:=1) Y u2 sw ZB ZB
  rw[Nat.mul_one,hm.2 _ Y WF,<- aPF hu C A R,decide_eq_true W,Bool.true_and] at Nu
  cases hA:lN ns i k
  ·rw[hA] at Nu;apply oN (ns.length-(k+1))
   ·simp only[Z8,seval,D,A,G,hw,bf R,Y,u2,Nu];rfl
   ·exact⟨k+1,m,g,QbU,fun h=>Qb3,hm.aXl hA,WF,rfl⟩
  rw[hA] at Nu;by_cases he:sY ns i k=[]
  ·rw[nE he] at D;apply oN (ns.length-(k+1))
   ·simp only[Z8,seval,D,A,G,hw,bf R,Y,u2,Nu,S,M,hle];rfl
   ·exact⟨k+1,m.set (k:Int).toNat true,_,yh,fun _=>Qah,hm.A1 A hA,WF,rfl⟩
  ·rw[nN he] at D;have u:=(r he).2
   apply oN (ns.length-(k+1))
   ·simp only[Z8,seval,D,u,N he,Ai _ _ _ _ J,A,G,hw,bf R,Y,u2,Nu,S,M,hle];rfl
   ·exact⟨k+1,m.set (k:Int).toNat true,_,yh,fun _=>Qap,hm.A1 A hA,WF,rfl⟩
 case start=>exact⟨0,List.replicate ns.length false,0,QbE,fun h=>absurd rfl h,⟨qe,fun j j0 j1=>by simp[gx,show j.toNat<ns.length from WF,show ¬j<0 from WF]⟩,WF,rfl⟩
 case rest =>
  rintro e st ⟨rfl,g,r,hh6⟩
  simp only[Z8,seval,r,hh6];exact oH rfl (by simp only[E8,seval,r]<;>rfl) (by simp only[E8,seval,hh6]<;>rfl) (eP _)
def a43 (ns:List Node) (hu:eK ns) (X:(nd ns 0).up=-1) (M:bg ns.length) (i:Int) (i0:0<=i) (i1:i<ns.length) (st:St) (d:Nat):aO (aA prog) 339 [ak ⟨ns⟩,aa i] st (some d)=some { dst:=some d,val:=.own d (st.aJ d),new:=some (d,[.row 3 1 (sY ns i ns.length).length (aH (sY ns i ns.length))])}:=gA (aU (gZ _) (.v _)) (a42 ns hu X M i i0 i1)
def aXm (ns:List Node) (h0:0<ns.length) (M:bg ns.length) (l:List Int) (hl:bg l.length) (S:l≠[]) (hm:∀x∈l,0<=x/\x<ns.length) (to never:Int) :
 aA prog 294 [ak ⟨ns⟩,.sl l.length (aH l),aa to,aa never]=some (chU (Vu to never l ns)):=by
 rw[dJ prog func294 rfl WP _ (cF _ _) rfl]
 have N:((l.length:Int) == 0)=false:=bh
 have C:=aO3 ns h0 M
 simp only[Z8,seval,N,C];refine gL (fun n st=>∃(k:Nat) (cur:List Node),(st.env 2=aa to/\st.env 3=aa never/\st.env 8=.ptr 8 0 0/\st.heap 8 0=some (.cells [af])/\st.env 10=.ptr 10 0 0/\st.heap 10 0=some (.cells [.own 18 0])/\st.heap 18 0=some (.row 84 240 cur.length (bS cur))/\st.env 19=.sl l.length (aH l)/\st.env 20=aa l.length/\st.env 21=aa k)/\cur.length=ns.length/\Vu to never l ns=Vu to never (l.drop k) cur/\k<=l.length/\n=l.length-k)
  (fun e st=>(e=.ret/\Vu to never l ns=none/\st.env 8=.ptr 8 0 0/\st.heap 8 0=some (.cells [af])/\st.env 9=aa 21)\/(e=.exit 0/\∃r,Vu to never l ns=some r/\st.env 8=.ptr 8 0 0/\st.heap 8 0=some (.cells [af])/\st.env 10=.ptr 10 0 0/\st.heap 10 0=some (.cells [.own 18 0])/\st.heap 18 0=some (.row 84 240 r.length (bS r)))) l.length ?step ?start ?rest
 case step =>
  rintro n st ⟨k,cur,D,J,G,hk,Rj⟩
  by_cases A:(k:Int)<l.length
  ·have q0:(0:Int)<=k:=WF
   have hw:=wk (k:=k) WF
   obtain⟨x0,x1⟩:=hm _ (Bi q0 A)
   have x2:it l k<cur.length:=WF
   rw[aBM WF] at G
   simp only[Vu] at G;have hg:=GJ x0 x2
   by_cases hs:(nd cur (it l k)).status=never
   ·rw[if_pos hs] at G;have hb:((nd cur (it l k)).status == never)=true:=ec
    apply oT (.ret)
    ·simp only[Z8,seval,D,A,q0,x0,x2,hg,hb];rfl
    ·exact .inl ⟨rfl,G,XC,XC,XC⟩
   ·rw[if_neg hs] at G;have hb:((nd cur (it l k)).status == never)=false:=ec
    have hu:=GK (s:=to) x0 x2
    have hle:(it l k).toNat * 240+239+1<=cur.length * 240:=by
     have:((it l k).toNat+1) * 240<=cur.length * 240:=Nat.mul_le_mul_right _ WF
     omega
    have R:(it l k).toNat * 240+240<=cur.length * 240:=WF
    apply oN (l.length-(k+1))
    ·simp only[Z8,seval,D,A,q0,x0,x2,hg,hb,hu,hle,R,hw];rfl
    ·exact⟨k+1,setAt cur (it l k) to,by simp only[E8,seval,D,Be],by rw[Be];exact J,G,WF,rfl⟩
  ·obtain rfl:k=l.length:=WF
   rw[drop_length] at G;apply oT (.exit 0)
   ·simp only[Z8,seval,D,A];rfl
   ·exact .inr ⟨rfl,cur,G,XC⟩
 case start=>exact⟨0,ns,Wl,rfl,rfl,WF,WF⟩
 case rest =>
  rintro e st (⟨rfl,G,D⟩|⟨rfl,r,G,D⟩)
  ·rw[G];simp only[Z8,seval];exact Tt rfl (.inl rfl) rfl (x1:=.agg [af]) (x2:=aa 21) zz zz (aNI _ _) (Nd (PI _) (CL _ _))
  ·rw[G];simp only[Z8,seval,D];exact Tt rfl (.inl rfl) rfl (x1:=.agg [.own 18 0]) (x2:=aa 0) zz zz (aNJ _ _ _) (Nd (Wx XC (iG _)) (CL _ _))
def ta (args:List AV) (st:St) (d:Option Nat):aO (aA prog) 294 args st d=oK (aA prog) 294 (bM (args.map (eE st))) (decide (∀x∈args,Flat x)) st d:=dZ _ _ _ _ _
def a45 (ns:List Node) (hu:eK ns) (X:(nd ns 0).up=-1) (M:bg ns.length) (i:Int) (hm:0<=i/\i<ns.length):aA prog 226 [ak ⟨ns⟩,aa i]=some (P4 ns i):=by
 rw[dJ prog func226 rfl WP _ (cF _ _) rfl]
 unfold P4;rw[if_pos hm];have A:=aXk ns hu X M i hm.1 hm.2
 have hpl:=zZ hu i
 have G:=aXm ns WF M (path ns i) WF (by have:=Mh hu hm.1 hm.2;intro h;rw[h] at this;simp at this) (Aa hu) 1 2
 unfold LN;cases p:Vu 1 2 (path ns i) ns with
 | none =>
   rw[p] at G;have C:=fun (fl:Bool) (st:St) (d:Option Nat)=>tc (fl:=fl) (st:=st) (d:=d) G
   simp only[Z8,seval,A,ta,C,bW];exact bT rfl qy qn Wl Wl
 | some r =>
   rw[p] at G;have C:=fun (fl:Bool) (st:St) (d:Nat)=>te (fl:=fl) (st:=st) (d:=d) G (Hu r)
   simp only[Z8,seval,A,ta,C,bW];exact bT rfl qy qn Wl Wl
def a47 (ns:List Node) (hu:eK ns) (X:(nd ns 0).up=-1) (M:bg ns.length) (i:Int) (hm:0<=i/\i<ns.length):aA prog 297 [ak ⟨ns⟩,aa i]=some (P3 ns i):=by
 rw[dJ prog func297 rfl WP _ (cF _ _) rfl]
 unfold P3;rw[if_pos hm];have A:=a43 ns hu X M i hm.1 hm.2
 have Q9:=Mn ns i ns.length
 have G:=aXm ns WF M (sY ns i ns.length) WF (EK hu hm.1 hm.2 _ hm.2) (BZ ns i) 2 1
 unfold fm;cases p:Vu 2 1 (sY ns i ns.length) ns with
 | none =>
   rw[p] at G;have C:=fun (fl:Bool) (st:St) (d:Option Nat)=>tc (fl:=fl) (st:=st) (d:=d) G
   simp only[Z8,seval,A,ta,C,bW];exact bT rfl qy qn Wl Wl
 | some r =>
   rw[p] at G;have C:=fun (fl:Bool) (st:St) (d:Nat)=>te (fl:=fl) (st:=st) (d:=d) G (Hu r)
   simp only[Z8,seval,A,ta,C,bW];exact bT rfl qy qn Wl Wl
def aXn (ns:List Node) (hu:eK ns) (X:(nd ns 0).up=-1) (M:bg ns.length) (i:Int) (hm:0<=i/\i<ns.length):KC 226 [ak ⟨ns⟩,aa i] (P4 ns i):=fun _ _=>aX (aU (gZ _) (.v _)) (a45 ns hu X M i hm) (DL ns i)
def aXo (ns:List Node) (hu:eK ns) (X:(nd ns 0).up=-1) (M:bg ns.length) (i:Int) (hm:0<=i/\i<ns.length):KC 297 [ak ⟨ns⟩,aa i] (P3 ns i):=fun _ _=>aX (aU (gZ _) (.v _)) (a47 ns hu X M i hm) (DK ns i)
def a48 (ns:List Node) (hu:eK ns) (X:(nd ns 0).up=-1) (M:bg ns.length) (i:Int) (hm:0<=i/\i<ns.length) (h:bU):aA prog 296 [ak ⟨ns⟩,aa i,.agg (aW h)]=some (cu ns i h):=by
 rw[dJ prog func296 rfl WP _ (cF _ _) rfl]
 unfold cu
 ·have aDn:=aXk ns hu X M i hm.1 hm.2
  have hpl:=zZ hu i
  have hp0:=Mh hu hm.1 hm.2
  have C:=Aa hu (i:=i)
  have hpe:path ns i≠[]:=by intro h;rw[h] at hp0;simp at hp0
  have N:(((path ns i).length:Int) == 0)=false:=by simp[hpe]
  unfold nS;rw[if_neg hpe];generalize path ns i=p at aDn hpl hp0 C N
  by_cases R:h=bQ
  ·have l:decide (h=bQ)=true:=decide_eq_true R
   rw[if_pos R];simp only[Z8,seval,aDn,N,vH,l];refine gL (fun n st=>∃k:Nat,(st.env 1=aa i/\st.env 3=.ptr 3 0 0/\st.heap 3 0=some (.cells (bN ⟨ns⟩))/\st.env 8=.own 14 0/\st.heap 14 0=some (.row 3 1 p.length (aH p))/\st.env 20=.own 14 0/\st.env 21=aa p.length/\st.env 22=aa k)/\tH ns p p.length=tH ns p (p.length-k)/\k<=p.length/\n=p.length-k)
    (fun e st=>(e=.ret/\∃k,tH ns p p.length=some k/\st.env 6=aa (if k=0 then -1 else it p ((k:Int)-1))/\st.env 7=aa (it p k))\/(e=.exit 0/\tH ns p p.length=none/\st.env 1=aa i)) p.length ?step ?start ?rest
   case step =>
    rintro n st ⟨k,D,W,hk,Rj⟩
    by_cases A:(k:Int)<p.length
    ·have q0:(0:Int)<=k:=WF
     have hw:=wk (k:=k) WF
     obtain⟨x0,x1⟩:=C _ (Bi q0 A)
     obtain⟨m,hm'⟩:∃m,p.length-k=m+1:=⟨p.length-k-1,WF⟩
     rw[hm'] at W;simp only[tH] at W;rw[show p.length-(m+1)=k from WF] at W
     by_cases QT:Yv ns (it p k)=bQ
     ·rw[if_pos QT] at W;have N6:decide ((nd ns (it p k)).block.eQ=bQ)=true:=decide_eq_true QT
      apply oN (p.length-(k+1))
      ·simp only[Z8,seval,D,A,q0,x0,x1,vH,N6,hw];rfl
      ·exact⟨k+1,XC,by rw[W,show p.length-(k+1)=m from WF],WF,rfl⟩
     ·rw[if_neg QT] at W;have N6:decide ((nd ns (it p k)).block.eQ=bQ)=false:=decide_eq_false QT
      by_cases S:k=0
      ·have hb:((k:Int) == 0)=true:=bh
       apply oT (.ret)
       ·simp only[Z8,seval,D,A,q0,x0,x1,vH,N6,hb];rfl
       ·exact .inl ⟨rfl,k,W,by rw[if_pos S];simp only[E8,seval],qb⟩
      ·have hb:((k:Int) == 0)=false:=bh
       have DG:i64.wrap ((k:Int)-1)=(k:Int)-1:=Dz _ WF WF
       have r0:(0:Int)<=(k:Int)-1:=WF
       have G:(k:Int)-1<p.length:=WF
       apply oT (.ret)
       ·simp only[Z8,seval,D,A,q0,x0,x1,vH,N6,hb,DG,r0,G];rfl
       ·exact .inl ⟨rfl,k,W,by rw[if_neg S];simp only[E8,seval],qb⟩
    ·obtain rfl:k=p.length:=WF
     rw[Nat.sub_self] at W;apply oT (.exit 0)
     ·simp only[Z8,seval,D,A];rfl
     ·exact .inr ⟨rfl,W,XC⟩
   case start=>exact⟨0,Wl,rfl,WF,rfl⟩
   case rest =>
    rintro e st (⟨rfl,k,W,r,u⟩|⟨rfl,W,J⟩)
    ·rw[W];simp only[Z8,seval];exact bT rfl (by simp only[bC,E8,seval,r]<;>rfl) (by simp only[bC,E8,seval,u]<;>rfl) Wl Wl
    ·rw[W];simp only[Z8,seval,J];exact bT rfl qn qn Wl Wl
  ·have l:decide (h=bQ)=false:=decide_eq_false R
   have Y:i64.wrap ((p.length:Int)-2)=(p.length:Int)-2:=Dz _ WF WF
   rw[if_neg R];simp only[Z8,seval,aDn,N,vH,l,Y];refine gL (fun n st=>∃m:Nat,(st.env 1=aa i/\st.env 3=.ptr 3 0 0/\st.heap 3 0=some (.cells (bN ⟨ns⟩))/\st.env 5=.ptr 5 0 0/\st.heap 5 0=some (.cells (aW h))/\st.env 8=.own 14 0/\st.heap 14 0=some (.row 3 1 p.length (aH p))/\st.env 11=aa ((m:Int)-1))/\zN ns p h (p.length-1)=zN ns p h m/\m<=p.length-1/\n=m)
    (fun e st=>(e=.ret/\∃k,zN ns p h (p.length-1)=some k/\st.env 6=aa (it p k)/\st.env 7=aa (it p ((k:Int)+1)))\/(e=.exit 2/\zN ns p h (p.length-1)=none/\st.env 1=aa i)) (p.length-1) ?step ?start ?rest
   case step =>
    rintro n st ⟨m,D,W,hm',Rj⟩
    by_cases A:(0:Int)<=(m:Int)-1
    ·obtain⟨k,rfl⟩:∃k,m=k+1:=⟨m-1,WF⟩
     have e1:((k+1:Nat):Int)-1=k:=WF
     rw[e1] at D A;have k1:(k:Int)<p.length:=WF
     have hw:i64.wrap ((k:Int)-1)=(k:Int)-1:=Dz _ WF WF
     obtain⟨x0,x1⟩:=C _ (Bi A k1)
     simp only[zN] at W;by_cases QT:Yv ns (it p k)=h
     ·rw[if_pos QT] at W;have N6:decide ((nd ns (it p k)).block.eQ=h)=true:=decide_eq_true QT
      have DG:i64.wrap ((k:Int)+1)=(k:Int)+1:=Dz _ WF WF
      have r0:(0:Int)<=(k:Int)+1:=WF
      have G:(k:Int)+1<p.length:=WF
      apply oT (.ret)
      ·simp only[Z8,seval,D,A,k1,x0,x1,N6,DG,r0,G];rfl
      ·exact .inl ⟨rfl,k,W,qb,qb⟩
     ·rw[if_neg QT] at W;have N6:decide ((nd ns (it p k)).block.eQ=h)=false:=decide_eq_false QT
      apply oN (k)
      ·simp only[Z8,seval,D,A,k1,x0,x1,N6,hw];rfl
      ·exact⟨k,XC,W,WF,rfl⟩
    ·obtain rfl:m=0:=WF
     apply oT (.exit 2)
     ·simp only[Z8,seval,D,A];rfl
     ·exact .inr ⟨rfl,W,XC⟩
   case start =>
    have hs:(p.length:Int)-2=((p.length-1:Nat):Int)-1:=WF
    exact⟨p.length-1,by simp only[E8,seval,hs],rfl,WF,rfl⟩
   case rest =>
    rintro e st (⟨rfl,k,W,r,u⟩|⟨rfl,W,J⟩)
    ·rw[W];simp only[Z8,seval];exact bT rfl (by simp only[bC,E8,seval,r]<;>rfl) (by simp only[bC,E8,seval,u]<;>rfl) Wl Wl
    ·rw[W];simp only[Z8,seval,J];exact bT rfl qn qn Wl Wl
def a5a (ns:List Node) (hu:eK ns) (X:(nd ns 0).up=-1) (M:bg ns.length) (i:Int) (hm:0<=i/\i<ns.length) (h:bU):KC 296 [ak ⟨ns⟩,aa i,.agg (aW h)] (cu ns i h):=fun _ _=>aX (jC (gZ _) (.v _) (oE _)) (a48 ns hu X M i hm h) (XS ns i h)
def a5b (ns:List Node) (hu:eK ns) (X:(nd ns 0).up=-1) (M:bg ns.length) (i:Int) (i0:0<=i) (i1:i<ns.length) (h:bU) (l:List Int) (hl:bg l.length) {u:AV} (S:Ov u l) :
 aA prog 227 [ak ⟨ns⟩,aa i,.agg (aW h),u]=some (DI ns i h l):=by
 rw[dJ prog func227 rfl WP _ (cF _ _) (by rcases S with rfl|⟨rfl,rfl⟩<;>rfl)]
 have hRe:=a5a ns hu X M i ⟨i0,i1⟩ h
 have OE:=DH hu X i0 i1 h
 have C:=S.view
 have KP:=fun st (k:IntKind) (i:Int) h0 J=>S.idx st (k:=k) (i:=i) h0 J
 have h273:=j9 ns hu
 unfold DI;obtain⟨a,ha⟩:∃a,(nS ns i h).1=a:=⟨_,rfl⟩
 obtain⟨c,G⟩:∃c,(nS ns i h).2=c:=⟨_,rfl⟩
 unfold cu at hRe;rw[ha,G] at hRe OE;rw[ha,G];simp only[Z8,seval,hRe,bW,C];refine gL (fun n st=>∃k:Nat,(st.env 4=.ptr 4 0 0/\st.heap 4 0=some (.cells (bN ⟨ns⟩))/\st.env 8=.ptr 8 0 0/\st.heap 8 0=some (.cells [af])/\st.env 10=aa a/\st.env 11=aa c/\st.env 23=u/\st.env 24=aa l.length/\st.env 25=aa k)/\(∀j:Int,0<=j->j<k->lN ns c (it l j)=false)/\k<=l.length/\n=l.length-k)
  (fun e st=>(e=.ret/\Rz ns c l/\st.env 8=.ptr 8 0 0/\st.heap 8 0=some (.cells [af])/\st.env 9=aa 21)\/(e=.exit 0/\¬Rz ns c l/\st.env 4=.ptr 4 0 0/\st.heap 4 0=some (.cells (bN ⟨ns⟩))/\st.env 8=.ptr 8 0 0/\st.heap 8 0=some (.cells [af])/\st.env 10=aa a/\st.env 11=aa c)) l.length ?step ?start ?rest
 case step =>
  rintro n st ⟨k,D,Y,R,Rj⟩
  by_cases A:(k:Int)<l.length
  ·have q0:(0:Int)<=k:=WF
   have hw:=wk (k:=k) WF
   cases hA:lN ns c (it l k)
   ·apply oN (l.length-(k+1))
    ·simp only[Z8,seval,D,A,q0,KP,h273,hA,hw];rfl
    ·exact⟨k+1,XC,fun j W j1=>by
     by_cases hjk:j<k
     ·exact Y j W hjk
     ·rw[show j=(k:Int) from WF];exact hA,WF,rfl⟩
   ·apply oT (.ret)
    ·simp only[Z8,seval,D,A,q0,KP,h273,hA];rfl
    ·exact .inl ⟨rfl,⟨_,Bi q0 A,hA⟩,XC,XC,XC⟩
  ·obtain rfl:k=l.length:=WF
   have hno:¬Rz ns c l:=by
    rintro⟨x,N,hxa⟩
    obtain⟨j,hj',rfl⟩:=getElem_of_mem N
    have:=Y j WF WF
    rw[show it l (j:Int)=l[j] by simp[it,hj']] at this
    rw[this] at hxa;cases hxa
   apply oT (.exit 0)
   ·simp only[Z8,seval,D,A];rfl
   ·exact .inr ⟨rfl,hno,XC⟩
 case start=>exact⟨0,qb,fun j _ _=>WF,WF,WF⟩
 case rest =>
  rintro e st (⟨rfl,R,D⟩|⟨rfl,R,D⟩)
  ·rw[if_pos R];simp only[Z8,seval];exact bT rfl me yp Wl Wl
  ·rw[if_neg R];by_cases h0:0<=a
   ·rw[if_pos h0];have m:a∈path ns i:=by
     rcases OE.2 with h|h
     ·omega
     ·exact h.1
    obtain⟨_,a1⟩:=Aa hu a m
    have LJ:=aXn ns hu X M a ⟨h0,a1⟩
    rw[show P4 ns a=j4 (LN ns a) from if_pos ⟨h0,a1⟩] at LJ;cases p:LN ns a with
    | none =>
      rw[p] at LJ;simp only[j4,Vw] at LJ;simp only[Z8,seval,D,h0,LJ,bW];exact bT rfl me yp Wl Wl
    | some r =>
      rw[p] at LJ;simp only[j4] at LJ;have hR:=Vx hu p
      have hu2:=hR.c.su.aOc hu
      have hr2:(nd r 0).up=-1:=by rw[hR.c.L2 WF WF];exact X
      have aGP:=aXo r hu2 hr2 oa c (by rw[hR.c.len];exact Aa hu c OE.1)
      rcases Av r oa c with ⟨e,he⟩|⟨q,he,_⟩
      all_goals
       rw[he] at aGP;simp only[he];simp only[Z8,seval,D,h0,LJ,aGP,bW];exact bT rfl me yp Wl Wl
   ·rw[if_neg h0];have aGP:=aXo ns hu X M c (Aa hu c OE.1)
    rcases Av ns M c with ⟨e,he⟩|⟨q,he,_⟩
    all_goals
     rw[he] at aGP;rw[he];simp only[Z8,seval,D,h0,aGP,bW];exact bT rfl me yp Wl Wl
def a5c (ns:List Node) (hu:eK ns) (X:(nd ns 0).up=-1) (M:bg ns.length) (i:Int) (i0:0<=i) (i1:i<ns.length) (h:bU) (l:List Int) (W:bg l.length) {u:AV} (S:Ov u l) (st:St) (d:Option Nat) :
 aO (aA prog) 227 [ak ⟨ns⟩,aa i,.agg (aW h),u] st d=some { dst:=d,val:=DI ns i h l }:=aX (aNH (gZ _) (.v _) (oE _) S.flat) (a5b ns hu X M i i0 i1 h l W S) (OB ns i h l)
def a5d (ns:List Node) (hu:eK ns) (X:(nd ns 0).up=-1) (M:bg ns.length) (i:Int) (v:fM) (l:List Int) (W:bg l.length) {kv:AV} (hkv:Ov kv l) :
 aA prog 156 [ak ⟨ns⟩,aa i,am v,kv]=some (DJ ns i v l):=by
 rw[dJ prog func156 rfl WP _ (cF _ _) (by rcases hkv with rfl|⟨rfl,rfl⟩<;>rfl)]
 by_cases hm:0<=i/\i<ns.length
 ·obtain⟨i0,i1⟩:=hm
  have C:¬i<0:=WF
  have A:((ns.length:Int)<=i)=False:=eq_false WF
  unfold DJ;rw[if_neg dv]
  by_cases J:v.kind=1
  ·rw[if_pos J];have b1:(v.kind == 1)=true:=bx
   have D:=aXn ns hu X M i ⟨i0,i1⟩
   rcases OD ns M i with ⟨e,he⟩|⟨q,he,_⟩
   all_goals
    rw[he] at D;rw[he];simp only[Z8,seval,C,A,b1,D,bW];exact bT rfl qy qn Wl Wl
  ·rw[if_neg J];have b1:(v.kind == 1)=false:=bx
   by_cases h2:v.kind=2
   ·rw[if_pos h2];have b2:(v.kind == 2)=true:=ed
    have G:=a5c ns hu X M i i0 i1 v.cJ l W hkv
    rcases aCB ns M i v.cJ l with ⟨e,he⟩|⟨q,he,_⟩
    all_goals
     rw[he] at G;rw[he];simp only[Z8,seval,C,A,b1,b2,G,bW];exact bT rfl qy qn Wl Wl
   ·rw[if_neg h2];have b2:(v.kind == 2)=false:=ed
    have N:=aO3 ns WF M
    by_cases S:v.kind=3
    ·rw[if_pos (.inl S)];have u:(v.kind == 3)=true:=bh
     simp only[Z8,seval,C,A,b1,b2,u,N];exact bT rfl qy qn Wl Wl
    ·have u:(v.kind == 3)=false:=bh
     by_cases h4:v.kind=4
     ·rw[if_pos (.inr h4)];have R:(v.kind == 4)=true:=by simp[h4]
      simp only[Z8,seval,C,A,b1,b2,u,R,N];exact bT rfl qy qn Wl Wl
     ·rw[if_neg WF]
      have R:(v.kind == 4)=false:=by simp[h4]
      simp only[Z8,seval,C,A,b1,b2,u,R];exact bT rfl qy qn Wl Wl
 ·unfold DJ;rw[if_pos hm];by_cases C:i<0
  ·simp only[Z8,seval,C];exact bT rfl qy qn Wl Wl
  ·have A:((ns.length:Int)<=i)=True:=eq_true WF
   simp only[Z8,seval,C,A];exact bT rfl qy qn Wl Wl
def aGQ:∀(l:List Int) (a n:Int),l.Pairwise (· < ·)->(∀x∈l,a<=x/\x<n)->a<=n->(l.length:Int)<=n-a
 | [],a,n,_,_,h=>by simp;omega
 | x :: l,a,n,hp,X,h=>by
   have J:=pairwise_cons.1 hp
   have hx:=X x (mem_cons_self ..)
   have:=aGQ l (x+1) n J.2 (fun y Y=>⟨by have:=J.1 y Y;omega,(X y (mem_cons_of_mem _ Y)).2⟩) WF
   rw[length_cons];omega
theorem KI.dM {s:aF} {v:SV} {q:Int} (k:KI s v q) (L:Option (List Int)) (h0:ol L≠[]) (J:(ol L).Pairwise (· < ·)) (h2:∀x∈ol L,0<=x/\x<(ol v.B).length) (S:((ol L).length:Int)<=q):KI (lD s (ov aH L)) { v with Q:=L } q :=
 have h:=k.gi
 have r:=k.rg
 ⟨⟨⟨h.sd.fL,h.sd.cJ,rfl,h.sd.early,h.sd.bL,h.sd.tree,h.sd.tables,h.sd.eV,h.sd.tB,h.sd.nB,h.sd.nL,by show ((ol L).length:Int)<1000000;have:=h.N8;omega,h.sd.nE,h.sd.nO,h.sd.nT,h.sd.nn⟩,h.up,h.Nv,h.pos,h.nl,h.RE,h.iH,h.Wg,h.nB,h.nO,h.AH,h.nE,h.KU,h.nT,h.KV,S,h.N8,h.dX⟩,
  ⟨r.now,r.j,r.f,r.nd,r.or,r.rt,r.fe,r.ds,r.tb,⟨fun e=>h0 (by rw[show L=some [] from e];rfl),r.ne.e,r.ne.t,r.ne.ea,r.ne.tb⟩,r.vs.dM L _ h0 J h2⟩,k.fL,k.es⟩
def c74 (k:KI s v q) (hq:1024<=q) (x:eZ) (V W:Option (List Int)) (hV:x.first.dL=ov aH V) (hW:x.second.dL=ov aH W) (S:((ol V).length:Int)<90000) (nW:((ol W).length:Int)<90000):∃y,aA prog 74 [bc s,aw x]=some y/\jz s v q y:=by
 have hs:=k.gi.sd
 have hf:=hs.flat
 have nY:=hs.fl
 have R:=sI
 have f1:Flat x.first.dL:=zr
 have f2:Flat x.second.dL:=iy
 have fx:Flat (aw x):=(jT x).2 ⟨f1,f2⟩
 have nB:=k.gi.nB
 obtain⟨n,M⟩:∃n:Int,((ol v.B).length:Int)=n:=⟨_,rfl⟩
 obtain⟨r1,O2,e1,rfl,he1,p⟩:=a4B x V W hV hW WF WF n WF
 have k145:=kx O2 (aU fx (.v _)) (.v _)
 have J:=fun st=>LD k.cp (Ro 63 23) (m:=[46]) st 23
 have z:zV s v [46] 23 0=lD s (rv 23 0 v.Q)/\zR v [46]=rl 3 1 aH v.Q:=a3s hs 23 0
 rw[cG func74 rfl a5e WP rfl]
 by_cases g1:e1=0
 case neg =>
  simp only[ZG,seval,AN,hs.fL,M,k145,bf g1];exact⟨_,qh,eU,e1,rfl,R,he1,fun h=>absurd h g1⟩
 obtain⟨A,B,rfl,rfl,hA,hB⟩:=p g1
 rw[dK] at S nW;have V5:∀(st:St) (d:Nat),aO (aA prog) 146 [aw x] st (some d)=_:=fun st d=>tZ (st:=st) (d:=d) (bZ fx) (aWW x A B n hV hW WF WF hA hB WF)
 have hC:∀c,r7 A B=some c->∀x∈c,0<=x/\x<n:=fun c e x N=>(Wa hA).2 x (by have h:=aBG A B;rw[e,dK] at h;rw[h] at N;exact (mem_filter.1 N).1)
 have nC:((ol (r7 A B)).length:Int)<90000:=by rw[aBG];have:(ko A B).length<=A.length:=length_filter_le ..;omega
 have nQ:((ol v.Q).length:Int)<=900000:=by have:=k.gi.nQ;have:=k.gi.N8;omega
 have eqx0:∀st:St,(∀l,v.Q=some l->st.heap 23 0=some (.row 3 1 l.length (aH l))/\0<st.aJ 23)->sr v.Q (rv 23 0 v.Q) st:=fun st h=>by
  cases e:v.Q with
  | none=>exact .inl ⟨rfl,rfl⟩
  | some l=>exact .inr ⟨l,23,0,rfl,fun e'=>k.rg.ne.q (by rw[e,e']),rfl,.inl rfl,(h l e).2,(h l e).1⟩
 have eql0:ig (ol v.Q) (ol v.Q) n 0:=⟨k.rg.vs.aM3,M ▸ k.rg.vs.aFs,Nat.le_refl _,WF⟩
 obtain⟨C,hCC⟩:∃C,r7 A B=C:=⟨_,rfl⟩
 rw[hCC] at hC nC V5;have rn:∀(a k:Nat),rv a k (none:Option (List Int))=af:=fun _ _=>rfl
 have rs:∀(a k:Nat) (l:List Int),rv a k (some l)=.own a k:=fun _ _ _=>rfl
 have key:=fun st=>aXe (st:=st) k hC nC nQ (n:=n) (m:=(ol C).length)
 cases C
 all_goals
  simp only[ZG,seval,AN,hs.fL,M,k145,bt g1,J,z,V5,NW,rn,iC,Nat.sub_self,length_singleton,Nat.zero_lt_one,getElem?_cons_zero];refine Mx (a:=GH) (ss s v n _) (key _ ⟨0,v.Q,rv 23 0 v.Q, ?s1, ?s2, ?s3,eqx0 _ fun l e=>?s4,eql0,WF,WF⟩) ?rest
  case s1=>simp only[E8,seval,NW]<;>and_intros<;>rfl
  case s2=>simp only[E8,seval,NW]<;>and_intros<;>first|rfl|exact Nat.le_refl _|omega
  case s3=>rintro c ⟨⟩<;>simp only[E8,seval,NW,iC]<;>and_intros<;>first|rfl|exact Nat.le_refl _|omega
  case s4=>simp only[E8,seval,NW,e,iC]<;>and_intros<;>first|rfl|exact Nat.zero_lt_one|omega
  case rest =>
   rintro e st ⟨rfl,L,X,D,G,hL⟩
   have eq:∀x,(lD s x).dI.dM=x:=fun _=>rfl
   have N5:=hL.lo
   rcases G with ⟨rfl,rfl⟩|⟨l,a,g,rfl,Y,rfl,ha,hg,u⟩
   ·have g2:((ol v.Q).length:Int)=0:=by have h:(ol v.Q).length<=0:=N5;omega
    simp only[ZG,seval,AN,D,eq,hs.dM,g2];exact⟨_,Qbj,eU,9,rfl,R,ZB,fun h=>wu⟩
   ·by_cases g2:(l.length:Int)=((ol v.Q).length:Int)
    ·simp only[ZG,seval,AN,D,u,eq,hs.dM,bt g2];exact⟨_,Qbj,eU,9,rfl,R,ZB,fun h=>wu⟩
    ·rw[dK] at N5 hL;have hp:=aGQ l 0 n hL.pw hL.kq WF
     have k':=k.dM (some l) Y hL.pw (M ▸ hL.kq) zw
     have Mp:=k'.gi.sd.flat
     have r:(a=2)=False/\(a=4)=False/\(a=7)=False:=⟨eq_false WF,eq_false WF,eq_false WF⟩
     simp only[ZG,seval,AN,D,u,eq,hs.dM,bf g2];refine⟨_,bT rfl (x1:=bc (lD s (.own a g))) ?ya (x2:=aa 0) ?yb (y1:=bc (lD s (ov aH (some l)))) ?yc (cV (.v _)),_,0,rfl,Mp,ZB,fun _=>⟨_,k',rfl,NR.refl _⟩⟩
     case ya=>simp only[bC,Z8,seval,D]
     case yb=>simp only[bC,Z8,seval,D]
     case yc =>
      refine (dC _ _).trans ((congrArg (fun y=>cT y fun x=>some (AV.agg x)) (aKG hs (jU (e:=3) (sz:=1) (L:=some l) (fun l2 e2=>by cases e2;simp only[E8,seval,r,u,false_and,if_false]) fun l2 _=>eP l2))).trans rfl)
def ij:aP 0 4 2/\aP 1 7 10/\aP 2 2 16/\aP 3 4 18/\aP 4 8 20/\aP 5 3 28/\aP 6 9 30/\aP 7 1 36/\aP 8 3 37/\aP 9 8 38/\aP 10 3 46/\aP 11 4 47/\aP 12 9 49/\aP 13 3 57:=⟨rfl,rfl,rfl,rfl,rfl,rfl,rfl,rfl,rfl,rfl,rfl,rfl,rfl,rfl⟩
def o7 (s:aF) (x:AV):aF:={ s with tables:=x }
def aKN (hs:SD s v) {X Y:AV} (h:cO st X=some Y):Rp st (aB (o7 s X))=some (aB (o7 s Y)):=by
 have fl:=hs.fl
 rw[fV];simp only[o7,bY fl.1,bY fl.2.1,bY fl.2.2.1,bY fl.2.2.2.1,bY fl.2.2.2.2.1,bY fl.2.2.2.2.2.1,cC,h]
def aXp {inl:Nat->List AV->St->Option (AV × St)} (x:Array Operand) (y:Array Nat) :
 fZ prog true call inl ops ⟨some 55,.call ⟨.value (.func 151),x,y⟩,T,pos,aft,none⟩ st=cT (inl 151 (x.toList.map st.ev) st) fun r=>some ((st.back r.2).put (some 55) r.1):=Kl 151 x y (Bs rfl)
def aPG (L:Option (List Table)) (nL:bg (ol L).length) (x:Table) (i:Nat) (hi:i<=(ol L).length) {g g2:Nat} {C:AV} (G:C=rv 48 g L) (p:St) (A:∀l,L=some l->p.heap 48 g=some (.row 74 34 l.length (bG l))) (M:p.heap 54 g2=some (.row 74 34 1 (cH x))) :
 ∃X st',oX prog 151 [C,aa i,.own 54 g2] p=some (X,st')/\∃a g',X=.own a g'/\(a=48/\g'=p.aJ 48\/a=25/\g'=p.aJ 25)/\yQ 48 g p st'/\g'<st'.aJ a/\st'.heap a g'=some (.row 74 34 ((ol L).take i++[x]++(ol L).drop i).length (bG ((ol L).take i++[x]++(ol L).drop i))):=by
 subst G;exact aPq (c:=cH) (U:=218) (V:=219) Ku.sl Ku.len ZB func151 WP rfl WP (fun _ _=>rfl) L nL x i hi (s:=48) (g:=g) (d2:=54) (g2:=g2) ZB (fun h=>by cases h.1) p (fun h=>wu) A M
theorem KI.EE {s:aF} {v:SV} {q:Int} (k:KI s v q) (o:Option (List Table)) (tb:∀t∈ol o,vY t) (nl:((ol o).length:Int)<=s.cFg.lim.rV) (sub:∀t∈ol v.T,t∈ol o) (A:o≠some []) (C:∀t∈ol o,∃B,t.fL=ov bD (some B)/\B≠[]) (D:∀t∈ol o,∃B:Option (List Int),t.fL=ov bD B/\(ol B).length=(ol v.B).length):KI (o7 s (ov bG o)) { v with T:=o } q :=
 have h:=k.gi
 have r:=k.rg
 ⟨⟨⟨h.sd.fL,h.sd.cJ,h.sd.dM,h.sd.early,h.sd.bL,h.sd.tree,rfl,h.sd.eV,tb,h.sd.nB,h.sd.nL,h.sd.nQ,h.sd.nE,h.sd.nO,by show ((ol o).length:Int)<_;have:=h.KV;omega,h.sd.nn⟩,h.up,h.Nv,h.pos,h.nl,h.RE,h.iH,h.Wg,h.nB,h.nO,h.AH,h.nE,h.KU,nl,h.KV,h.nQ,h.N8,h.dX⟩,
  ⟨r.now,r.j,r.f,r.nd,r.or,r.rt,r.fe,r.ds,by obtain⟨tb,J,h2⟩:=r.tb;exact⟨tb,sub _ J,h2⟩,⟨r.ne.q,r.ne.e,A,r.ne.ea,C⟩,r.vs.EE o _⟩,k.fL,k.es.1,D⟩
def c75 (k:KI s v q) (t:Table) (b:Option (List Int)) (D:t.fL=ov bD b) (nb:((ol b).length:Int)<=10000):∃y,aA prog 75 [bc s,ax t]=some y/\jz s v q y:=by
 have hs:=k.gi.sd
 have hf:=hs.flat
 have p:=hs.fl
 have R:=sI
 have nT:=k.gi.nT
 have KV:=k.gi.KV
 have fb:Flat t.fL:=by rw[D];exact cP b
 have C:Flat (ax t):=(iQ t).2 fb
 obtain⟨r1,O2,A,rfl,he1,hv1⟩:=a4R t b D WF (ol v.B).length
 have aGS:=kx O2 (aU C (.v _)) (.v _)
 rw[cG func75 rfl a5f WP rfl]
 by_cases g1:A=0
 case neg =>
  simp only[ZG,seval,ij,hs.fL,aGS,bf g1];exact⟨_,qh,eU,A,rfl,R,he1,fun h=>absurd h g1⟩
 by_cases g2:t.ck.aG<s.aL.dX.aG
 ·simp only[ZG,seval,ij,hs.fL,aGS,bt g1,g2];exact⟨_,qh,eU,13,rfl,R,ZB,fun h=>wu⟩
 obtain⟨i,kn,h149,hi⟩:=a4P v.T hs.nT (fun y Y=>(hs.tB y Y).elim fun B h=>by rw[h.1];exact cP B) t fb
 have aPH:=kx h149 (by simp only[mem_cons,not_mem_nil,or_false,forall_eq_or_imp,forall_eq];exact⟨hs.tables ▸ p.2.2.2.2.2.2,C,.v _⟩) (.cY _ (aU (.v _) (.v _)))
 cases kn
 case true =>
  simp only[ZG,seval,ij,hs.fL,aGS,bt g1,g2,hs.tables,aPH,bW,Wp];exact⟨_,qh,eU,9,rfl,R,ZB,fun h=>wu⟩
 by_cases g3:s.cFg.lim.rV<=((ol v.T).length:Int)
 ·simp only[ZG,seval,ij,hs.fL,aGS,bt g1,g2,hs.tables,aPH,bW,Wp,g3];exact⟨_,qh,eU,11,rfl,R,ZB,fun h=>wu⟩
 have hbn:=hv1 g1
 have hb0:=k.fL
 obtain⟨B,rfl⟩:∃B,b=some B:=by
  cases b with
  | none=>have:((0:Nat):Int)=_:=hbn;omega
  | some B=>exact⟨B,rfl⟩
 have hBn:B≠[]:=fun e=>by rw[e,dK] at hbn;simp at hbn;omega
 have k152:=kx (aVV t (some B) D (by simpa using hBn) WF) (bZ C) C
 have xJ:=fun st=>LD k.cp (Ro 63 48) (m:=[149]) st 48
 have z:zV s v [149] 48 0=o7 s (rv 48 0 v.T)/\zR v [149]=rl 74 34 bG v.T:=a3t hs 48 0
 have eq:(∀x,(o7 s x).tables=x)/\∀x y,({ o7 s x with tables:=y }:aF)=o7 s y:=⟨fun _=>rfl,fun _ _=>rfl⟩
 simp only[ZG,seval,ij,hs.fL,aGS,bt g1,g2,hs.tables,aPH,bW,Wp,g3,xJ,z,NW,k152,eq,aXp];obtain⟨N,S⟩:∃N,(ol v.T).take i++[t]++(ol v.T).drop i=N:=⟨_,rfl⟩
 have mem:∀y,y∈N↔y∈ol v.T\/y=t:=fun y=>by
  rw[<- S,mem_append,mem_append,mem_singleton];have h:=congrArg (y∈·) (take_append_drop i (ol v.T))
  simp only[mem_append,eq_iff_iff] at h;rw[<- h];constructor
  ·rintro ((h|h)|h)
   ·exact .inl (.inl h)
   ·exact .inr h
   ·exact .inl (.inr h)
  ·rintro ((h|h)|h)
   ·exact .inl (.inl h)
   ·exact .inr h
   ·exact .inl (.inr h)
 have len:N.length=(ol v.T).length+1:=by rw[<- S,length_append,length_append,length_take,length_drop,length_singleton];omega
 have k':=k.EE (some N) (fun y Y=>((mem y).1 Y).elim (hs.tB y) fun e=>e ▸ ⟨some B,D,WF⟩) (by rw[dK,len];omega) (fun y Y=>(mem y).2 (.inl Y)) (fun e=>by injection e with e;rw[e] at len;cases len) (fun y Y=>((mem y).1 Y).elim (k.rg.ne.tb y) fun e=>e ▸ ⟨B,D,hBn⟩) fun y Y=>((mem y).1 Y).elim (k.es.2 y) fun e=>e ▸ ⟨some B,D,WF⟩
 have Mp:=k'.gi.sd.flat
 have hfT:∀y∈N,Flat y.fL:=fun y Y=>(k'.gi.sd.tB y Y).elim fun B h=>by rw[h.1];exact cP B
 refine tW (fun st X st'=>∃a g',X=.own a g'/\(a=48/\g'=st.aJ 48\/a=25/\g'=st.aJ 25)/\yQ 48 0 st st'/\g'<st'.aJ a/\st'.heap a g'=some (.row 74 34 ((ol v.T).take i++[t]++(ol v.T).drop i).length (bG ((ol v.T).take i++[t]++(ol v.T).drop i)))) (aPG v.T hs.nT t i hi (g:=0) rfl _ (fun l e=>?p1) ?p2) ?rest
 case p1=>simp only[E8,seval,NW,e,iC]<;>rfl
 case p2=>simp only[E8,seval,NW]<;>rfl
 case rest =>
  rintro X st' ⟨J,xg,rfl,xw,u,_,G⟩
  rw[S] at G;have e4:st'.heap 4 0=some (.cells (aB eU)):=(u.1 4 0 wc WF).trans qq
  have e9:st'.heap 9 0=some (.cells (aB (o7 s (rv 48 0 v.T)))):=(u.1 9 0 wc WF).trans qq
  have r:(J=4)=False/\(J=9)=False:=⟨eq_false WF,eq_false WF⟩
  simp only[ZG,seval,ij,e4,e9,eq,bV,aN,aV,NW];refine⟨_,bT rfl (x1:=bc (o7 s (.own J xg))) ?ya (x2:=aa 0) ?yb (y1:=bc (o7 s (ov bG (some N)))) ?yc (cV (.v _)),_,0,rfl,Mp,ZB,fun _=>⟨_,k',rfl,NR.refl _⟩⟩
  case ya=>simp only[bC,Z8,seval,NW,bV,aN,aV,e4]<;>rfl
  case yb=>simp only[bC,Z8,seval,NW,bV,aN,aV]<;>rfl
  case yc =>
   refine (dC _ _).trans ((congrArg (fun y=>cT y fun x=>some (AV.agg x)) (aKN hs (jU (e:=74) (sz:=34) (L:=some N) (fun W M=>by cases M;simp only[E8,seval,NW,aN,aV,r,G,false_and,if_false]) fun W M=>by cases M;exact jL N hfT))).trans rfl)
def NS (a c:List Node):Prop:=∀n∈c,(∃m∈a,m.block.root=n.block.root/\(m.status=0\/m.status=n.status))\/∀m∈a,m.block.root≠n.block.root
end Go.Ab.Tryz
namespace Go.Ab.Tryz
open Classical Go.Proofs Go.Ab
variable {a r:List Node} {l:List Int}
def NR.ns {c:List Node} (h:NR a c):NS a c:=fun n M=>(h n M).imp (fun ⟨m,hm,A,e2⟩=>⟨m,hm,A,.inr e2⟩) id
def JP.ns (h:JP l a r):NS a r:=fun n M=>by
 obtain⟨j,Y,rfl⟩:=YL M
 have J:j<(a.length:Int):=by have:=h.sb.len;omega
 refine .inl ⟨_,zB Y.1 J,by rw[h.sb.block (show j.toNat<a.length from WF)], ?_⟩
 by_cases e:(nd a j).status=0
 ·exact .inl e
 ·exact .inr (h.old j Y.1 J e).symm
end Go.Ab.Tryz
namespace Go.Ab.Tryz
open Classical Go.Proofs Go.Ab
variable {s:aF} {v:SV} {q i b:Int} {st:St} {k T:Nat} {ns a r:List Node} {m:List Bool} {call:Nat->List AV->Option AV} {ops:Array Oper} {pos:String} {aft:Array Edge} {l:List Int} {t:State} {Q R:Option (List Request)}
theorem KI.tree {s:aF} {v:SV} {q:Int} (k:KI s v q) {l:List Int} {r:List Node} (Y:JP l v.ns r) (W:aD v.ns s.aL.dX.root∈l):KI { s with tree:=⟨.sl r.length (bS r)⟩} { v with ns:=r } q :=
 ⟨k.gi.tree Y.sb,k.rg.tree k.gi Y W _,k.fL,k.es⟩
structure EI (t:State) (v:SV) (Q R:Option (List Request)) (m b:Int):Prop where
 ki:KI t.store v 2000
 td:TD t v Q R
 nq:((ol Q).length:Int)<=m
 nr:((ol R).length:Int)<=256
 tq:TB b Q
 tr:TB b R
 cf:∃B,sZ t.store.cFg B
theorem TB.mono {X:Int} {o:Option (List Request)} (h:TB b o) (l:b<=X):TB X o:=fun y m=>⟨(h y m).1,by have:=(h y m).2;omega⟩
theorem EI.store {t:State} {v S:SV} {Q R:Option (List Request)} {m b:Int} (h:EI t v Q R m b) {s:aF} (k:KI s S 2000) (c:s.cFg=t.store.cFg):EI { t with store:=s } S Q R m b :=
 ⟨k,⟨k.gi.sd,h.td.Nx,h.td.ret,h.td.nQ,h.td.nR⟩,h.nq,h.nr,h.tq,h.tr,c ▸ h.cf⟩
def df (t:State) (v:SV) (m b:Int) (x:AV):Prop:=∃(D:State) (e:Int),x=.cY [bd D,aa e]/\Flat (bd D)/\(e=0->∃S u A,EI D S u A m b/\NS v.ns S.ns)
def a5h (h:TD t v Q R) (r:bU):aA prog 155 [.agg (aW r),.ip (aE t) 0]=some (aa (aD v.ns r)):=by
 rw[dJ prog func155 rfl WP _ (cF _ _) rfl]
 refine eM ?_
 simp only[Z8,seval,h.sd.tree,lX _ _ h.sd.nn];exact⟨_,bE rfl,rfl⟩
def aXq (h:TD t v Q R) (r:bU) (st:St) (g:Nat) (d:Option Nat) (u:st.heap 7 g=some (.cells (aE t))):aO (aA prog) 155 [.agg (aW r),.ptr 7 g 0] st d=some { dst:=d,val:=aa (aD v.ns r)}:=by
 have G:∀c∈aE t,Flat c:=by have:=h.flat;cases this;assumption
 rw[dZ,map_cons,map_cons,map_nil,Az,Tk u G,aM,aM,dB];exact zP (a5h h r)
def a5i (ns:List Node) (hu:eK ns) (X:(nd ns 0).up=-1) (M:bg ns.length) (i:Int) (w:fM) (l:List Int) (W:bg l.length) (st:St) (a g:Nat) (d:Option Nat) (u:st.heap a g=some (.row 3 1 l.length (aH l))) :
 eH (aA prog) 156 [ak ⟨ns⟩,aa i,am w,.own a g] st d=some { dst:=d,val:=DJ ns i w l,dE:=some (a,g,none)}:=by
 rw[Hi (s:=a) (k:=g) Qag (by intro y Y;simp only[mem_cons,not_mem_nil,or_false] at Y;rcases Y with rfl|rfl|rfl|rfl;exact .inl (gZ _);exact .inl (.v _);exact .inl (.agg _ (fJ w));exact .inr (.inl ⟨a,g,rfl⟩)),
  map_cons,map_cons,map_cons,map_cons,map_nil,cV (gZ _),cV (.v _),cV (.agg _ (fJ w)),Mo u,aM,aM,aM,aM,dB]
 exact YU (a5d ns hu X M i w l W (.inl rfl)) (OC ns i w l)
def x76 {m:Int} (h:EI t v Q R m b) (hb:b<=60) (w:fM):∃x,aA prog 76 [bd t,am w]=some x/\df t v m (b+1) x:=by
 have W:=h.td.flat
 have fw:Flat (am w):=.agg _ (fJ w)
 have Rl:=PF
 obtain⟨y,Y,rfl|⟨r,Q',nQ,X,hB,rfl⟩⟩:=a3C h.td h.ki.cp w
 ·have y8:=kx Y (aU W fw) (.cY _ (jC (.agg _ (eD _)) Rl (.v _)))
  rw[dJ prog func76 rfl WP _ (cF _ _) rfl]
  simp only[Z8,seval,y8,bW];exact⟨_,Qbt,_,23,rfl,Rl,fun e=>bz⟩
 have J:EI (pD t (ov aC Q') (ov aC R) t.cI) v Q' R m b:=⟨h.ki,⟨h.td.sd,rfl,rfl,by have:=h.td.nQ;omega,h.td.nR⟩,by have:=h.nq;omega,h.nr,hB b h.tq,h.tr,h.cf⟩
 obtain⟨t1,et⟩:∃t1,pD t (ov aC Q') (ov aC R) t.cI=t1:=⟨_,rfl⟩
 rw[et] at J Y;have p:=J.td.flat
 have fr:Flat (ay r):=.agg _ (eD _)
 have y8:=kx Y (aU W fw) (.cY _ (jC fr p (.v _)))
 have M:=J.ki.gi.sd.nn
 have rt:=h.tq r X
 obtain⟨B,hB⟩:=J.cf
 obtain⟨A,o,e154,XJ⟩:=a4K J.td J.ki.cp r ⟨rt.1,WF⟩ ⟨by have:=hB.back;omega,by have:=hB.back;omega⟩
 have Wg:∀S,df t v m (b+1) (.cY [bd ({ t1 with iB:=ov aC A,overflow:=o }),aa S]):=fun e=>by
  have n1:((ol A).length:Int)<=256:=by
   rcases XJ with rfl|⟨h,_⟩
   ·exact J.nr
   ·have:=hB.oV;omega
  have n2:TB (b+1) A:=by
   rcases XJ with rfl|⟨_,h⟩
   ·exact J.tr.mono WF
   ·intro y Y;rcases h y Y with h|h
    ·exact⟨(J.tr y h).1,by have:=(J.tr y h).2;omega⟩
    ·exact⟨WF,WF⟩
  have td:TD { t1 with iB:=ov aC A,overflow:=o } v Q' A:=⟨J.td.sd,J.td.Nx,rfl,J.td.nQ,WF⟩
  exact⟨_,e,rfl,td.flat,fun _=>⟨v,Q',A,⟨J.ki,td,J.nq,n1,J.tq.mono WF,n2,J.cf⟩,(NR.refl v.ns).ns⟩⟩
 have fl:=(Wg 0)
 have ff:Flat (bd ({ t1 with iB:=ov aC A,overflow:=o })):=(TD.flat ⟨J.td.sd,J.td.Nx,rfl,J.td.nQ,by rcases XJ with rfl|⟨h,_⟩;exact J.td.nR;have:=hB.oV;omega⟩:Flat (bd ({ t1 with iB:=ov aC A,overflow:=o }:State)))
 have k154:=kx e154 (aU p fr) ff
 rw[dJ prog func76 rfl WP _ (cF _ _) rfl]
 by_cases g3:w.kind=3
 ·simp only[Z8,seval,y8,bW,bt g3,k154];exact⟨_,Qbr,Wg 0⟩
 by_cases g4:w.kind=4
 ·simp only[Z8,seval,y8,bW,bf g3,bt g4,k154];exact⟨_,Qbr,Wg 0⟩
 have PJ:∀(st:St) (a g:Nat) (d:Option Nat),st.heap a g=some (.row 3 1 2 (aH [aD v.ns t1.store.aL.dX.root,aD v.ns t1.store.aL.fin.root]))->_:=fun st a g d u=>a5i v.ns J.ki.gi.up J.ki.gi.Nv M (aD v.ns r.block) w [aD v.ns t1.store.aL.dX.root,aD v.ns t1.store.aL.fin.root] (by show ((2:Nat):Int)<_;omega) st a g d u
 have h1e:=J.td
 have kc:=fun x (st:St) (g:Nat) (d:Option Nat) u=>aXq J.td x st g d u
 rcases aF6 J.ki.rg.vs.Er J.ki.rg.vs.AI J.ki.rg.vs.Yv (aD v.ns r.block) w [aD v.ns t1.store.aL.dX.root,aD v.ns t1.store.aL.fin.root] with ⟨e,he,ej⟩|⟨l,hs,ej⟩
 ·rw[ej] at PJ
  simp only[Z8,seval,y8,bW,bf g3,bf g4,cons_append,nil_append,rY,J.ki.gi.sd.tree,kc,PJ,bf he];exact⟨_,Qbt,_,_,rfl,Rl,fun h=>absurd h he⟩
 rw[ej] at PJ
 have h2:=J.store (J.ki.tree hs (mem_cons_self ..)) rfl
 have kc2:∀x (st:St) (g:Nat) (d:Option Nat),st.heap 7 g=some (.cells (aE { t1 with store:={ t1.store with tree:=⟨.sl l.length (bS l)⟩} }))->aO (aA prog) 155 [.agg (aW x),.ptr 7 g 0] st d=some { dst:=d,val:=aa (aD l x)}:=fun x st g d u=>aXq h2.td x st g d u
 have fin:∀x,x=bQ\/x=t1.store.dY->∃D,D=({ t1 with store:={ t1.store with tree:=⟨.sl l.length (bS l)⟩,dY:=x }}:State)/\Flat (bd D)/\df t v m (b+1) (.cY [bd D,aa 0]):=fun x N=>by
  have N:x=bQ\/0<=aD l x:=by
   rcases N with rfl|rfl
   ·exact .inl rfl
   ·rw[hs.sb.aD];exact J.ki.rg.vs.bo
  have k:=h2.ki.dY x N
  have e:EI { t1 with store:={ t1.store with tree:=⟨.sl l.length (bS l)⟩,dY:=x }} { v with ns:=l } Q' R m (b+1):=⟨k,⟨k.gi.sd,J.td.Nx,J.td.ret,J.td.nQ,J.td.nR⟩,J.nq,J.nr,J.tq.mono WF,J.tr.mono WF,J.cf⟩
  exact⟨_,rfl,e.td.flat,_,0,rfl,e.td.flat,fun _=>⟨_,Q',R,e,hs.ns⟩⟩
 have fr:=cB l t1.store.dY
 obtain⟨_,rfl,f1,G⟩:=fin _ (.inr rfl)
 obtain⟨_,rfl,f2,C⟩:=fin _ (.inl rfl)
 by_cases b0:0<=aD l t1.store.dY
 case neg =>
  simp only[Z8,seval,y8,bW,bf g3,bf g4,cons_append,nil_append,rY,J.ki.gi.sd.tree,kc,kc2,PJ,b0];exact⟨_,Qbs,G⟩
 by_cases b1:(nd l (aD l t1.store.dY)).status=2
 case neg =>
  simp only[Z8,seval,y8,bW,bf g3,bf g4,cons_append,nil_append,rY,J.ki.gi.sd.tree,kc,kc2,PJ,b0,fr.2,bf b1];exact⟨_,Qbs,G⟩
 ·simp only[Z8,seval,y8,bW,bf g3,bf g4,cons_append,nil_append,rY,J.ki.gi.sd.tree,kc,kc2,PJ,b0,fr.2,bt b1];exact⟨_,by apply bT;rfl;all_goals simp only[aI,bC,Z8,seval,f2]<;>rfl,C⟩
def aNK:aP 0 2 3/\iW 1 8 (some 5)=[(3,5)]:=⟨rfl,rfl⟩
def GL (n:Int) (M:Rg n):Wr 127 [ac n] 10:=by
 intro l hl;suffices h:∃r,aA prog 127 [.uniq 5 1 l.length (gH l),ac n]=some r/\∃m:List Int,r=.uniq 5 1 m.length (gH m)/\(m.length:Int)<=l.length+10 by
  obtain⟨r,h,m,rfl,h2⟩:=h;exact⟨m,h,h2⟩
 rw[wF prog func127 rfl WP _ _ _ _ _ (cF _ _)]
 simp only[Z8,seval,fP,gT,fQ,fY,gU];refine bP (fun m st=>∃(x:Int) (k:Nat) (l':List Int) (a g:Nat),(st.env 0=.own a g/\st.heap a g=some (.row 5 1 l'.length (gH l'))/\st.env 1=ac x)/\((a=0/\g=0)\/(a=12/\g<st.aJ 12))/\l'.length=l.length+k/\0<=x/\x<tb k/\k<=9/\m=x.toNat)
  (fun e st=>e=.exit 0/\∃(x:Int) (l':List Int) (a g:Nat),(st.env 0=.own a g/\st.heap a g=some (.row 5 1 l'.length (gH l'))/\st.env 1=ac x)/\a≠18/\(l'.length:Int)<=l.length+9) n.toNat ?step ?start ?rest
 case step =>
  rintro m st ⟨x,k,l',a,g,D,u,X,x0,N,hk,hm⟩
  by_cases A:128<=x
  ·have hk8:k<=8:=by
    rcases Nat.lt_or_ge k 9 with h|h
    ·omega
    ·have:k=9:=WF
     subst this;rw[pz] at N;omega
   have G:bg l'.length:=WF
   have R:x / 128<tb (k+1):=by show x / 128<tb k / 128+1;omega
   have C:∀b:Int,(l'++[b]).length=l.length+(k+1):=fun b=>by rw[length_append,length_cons,length_nil];omega
   rcases u with ⟨rfl,rfl⟩|⟨rfl,hg⟩
   ·apply oN ((x / 128).toNat)
    ·simp only[Z8,seval,D,A,Dl,xD _ _ _ _ G,Yz];rfl
    ·exact⟨x / 128,k+1,_,12,_,qz,.inr ⟨rfl,Yo⟩,C _,WF,R,WF,rfl⟩
   ·have vO:(g=st.aJ 12)=False:=eq_false WF
    apply oN ((x / 128).toNat)
    ·simp only[Z8,seval,D,A,vO,Dl,xD _ _ _ _ G,Yz];rfl
    ·exact⟨x / 128,k+1,_,12,_,qz,.inr ⟨rfl,Yo⟩,C _,WF,R,WF,rfl⟩
  ·apply oT (.exit 0)
   ·simp only[Z8,seval,D,A];rfl
   ·exact⟨rfl,x,l',a,g,XC,WF,WF⟩
 case start=>exact⟨n,0,l,0,0,by simp only[E8,seval,fP,gT,fQ,fY,gU]<;>rfl,.inl ⟨rfl,rfl⟩,rfl,M.1,M.2,WF,rfl⟩
 case rest =>
  rintro e st ⟨rfl,x,l',a,g,D,Y,X⟩
  have J:(a=18)=False:=eq_false Y
  have G:bg l'.length:=WF
  simp only[Z8,seval,D,J,xD _ _ _ _ G];exact⟨_,pP (.inl rfl) rfl Wl Wl (pQ _),_,rfl,yy⟩
def n127 (n:Int) (M:Rg n):da 127 [ac n] 10:=by
 suffices h:∃r,aA prog 127 [af,ac n]=some r/\∃m:List Int,r=.uniq 5 1 m.length (gH m)/\(m.length:Int)<=10 by
  obtain⟨r,h,m,rfl,h2⟩:=h;exact⟨m,h,h2⟩
 rw[dJ prog func127 rfl WP _ (cF _ _) rfl]
 simp only[Z8,seval];refine bP (fun m st=>∃(x:Int) (k:Nat),st.env 1=ac x/\((k=0/\st.env 0=af)\/∃(l':List Int) (g:Nat),(st.env 0=.own 12 g/\st.heap 12 g=some (.row 5 1 l'.length (gH l')))/\g<st.aJ 12/\l'.length=k)/\0<=x/\x<tb k/\k<=9/\m=x.toNat)
  (fun e st=>e=.exit 0/\∃(x:Int),st.env 1=ac x/\(st.env 0=af\/∃(l':List Int) (g:Nat),(st.env 0=.own 12 g/\st.heap 12 g=some (.row 5 1 l'.length (gH l')))/\(l'.length:Int)<=9)) n.toNat ?step ?start ?rest
 case step =>
  rintro m st ⟨x,k,D,h0,x0,N,hk,hm⟩
  by_cases A:128<=x
  ·have hk8:k<=8:=by
    rcases Nat.lt_or_ge k 9 with h|h
    ·omega
    ·have:k=9:=WF
     subst this;rw[pz] at N;omega
   have R:x / 128<tb (k+1):=by show x / 128<tb k / 128+1;omega
   rcases h0 with ⟨pX,h0⟩|⟨l',g,h0,hg,X⟩
   ·have C:∀b:Int,([b]:List Int).length=k+1:=fun b=>by rw[length_cons,length_nil];omega
    apply oN ((x / 128).toNat)
    ·simp only[Z8,seval,D,h0,A,Dl,ES,Yz];rfl
    ·exact⟨x / 128,k+1,qb,.inr ⟨_,_,⟨Wl,Wl⟩,Yo,C _⟩,WF,R,WF,rfl⟩
   ·have G:bg l'.length:=WF
    have C:∀b:Int,(l'++[b]).length=k+1:=fun b=>by rw[length_append,length_cons,length_nil];omega
    have vO:(g=st.aJ 12)=False:=eq_false WF
    apply oN ((x / 128).toNat)
    ·simp only[Z8,seval,D,h0,A,vO,Dl,xD _ _ _ _ G,Yz];rfl
    ·exact⟨x / 128,k+1,qb,.inr ⟨_,_,⟨Wl,Wl⟩,Yo,C _⟩,WF,R,WF,rfl⟩
  ·have J:st.env 0=af\/∃(l':List Int) (g:Nat),(st.env 0=.own 12 g/\st.heap 12 g=some (.row 5 1 l'.length (gH l')))/\(l'.length:Int)<=9:=by
    rcases h0 with ⟨_,h0⟩|⟨l',g,h0,hg,X⟩
    ·exact .inl h0
    ·exact .inr ⟨l',g,h0,WF⟩
   apply oT (.exit 0)
   ·simp only[Z8,seval,D,A];rfl
   ·exact⟨rfl,x,XC,by simpa only[E8,seval] using J⟩
 case start=>exact⟨n,0,Wl,.inl ⟨rfl,Wl⟩,M.1,M.2,WF,rfl⟩
 case rest =>
  rintro e st ⟨rfl,x,D,h0⟩
  rcases h0 with h0|⟨l',g,h0,X⟩
  ·simp only[Z8,seval,D,h0,ES];exact⟨_,Ki (n:=([u8.wrap x]:List Int).length) (cs:=gH [u8.wrap x]) (aI ZB) (.inl rfl) rfl Wl Wl (pR _),_,rfl,by rw[length_cons,length_nil];omega⟩
  ·have G:bg l'.length:=WF
   simp only[Z8,seval,D,h0,xD _ _ _ _ G];exact⟨_,oH rfl Wl Wl (pR _),_,rfl,yy⟩
def W4 (r:bU):Wr 189 [.agg (aW r)] 32:=by
 intro l hl;suffices h:∃x,aA prog 189 [.uniq 5 1 l.length (gH l),.agg (aW r)]=some x/\∃m:List Int,x=.uniq 5 1 m.length (gH m)/\(m.length:Int)<=l.length+32 by
  obtain⟨r,h,m,rfl,h2⟩:=h;exact⟨m,h,h2⟩
 have G:bg l.length:=WF
 have hc:aW r=gH r.toList:=EP r
 have X:bg r.toList.length:=qe
 rw[wF prog func189 rfl WP _ _ _ _ _ (cF _ _)]
 simp only[Z8,seval,fP,gT,fQ,fY,gU,aNc r,RP _ _ _ r,ET _ _ _ _ G X];exact⟨_,pP (.inl rfl) rfl Wl Wl (pQ _),_,rfl,by rw[length_append];simp⟩
def aXr (c:dH) (h:Rg c.aG):Wr 191 [ag c] 42:=by
 intro l hl;suffices h:∃r,aA prog 191 [.uniq 5 1 l.length (gH l),ag c]=some r/\∃m:List Int,r=.uniq 5 1 m.length (gH m)/\(m.length:Int)<=l.length+42 by
  obtain⟨r,h,m,rfl,h2⟩:=h;exact⟨m,h,h2⟩
 obtain⟨m1,A,b1⟩:=(GL c.aG h).at l
 obtain⟨m2,M,b2⟩:=(W4 c.root).at m1
 rw[RO prog func191 rfl WP WP _ _ _ _ _ (cF _ _)]
 simp only[ZG,seval,aNK,fP,gT,fQ,fY,gU,A,M];exact⟨_,pP (.inl rfl) rfl Wl Wl (pQ _),_,rfl,WF⟩
def a5k (w:oG):∃r:bU,aA prog 269 [.agg (fD w)]=some (.agg (aW r)):=by
 suffices h:∃x,aA prog 269 [.agg (fD w)]=some x/\∃r:bU,x=.agg (aW r) by
  obtain⟨x,h,r,rfl⟩:=h;exact⟨r,h⟩
 rw[dJ prog func269 rfl WP _ (cF _ _) rfl]
 simp only[Z8,seval,ql];refine bP (fun m st=>∃(k:Nat) (r:bU),(st.env 1=.ptr 1 0 0/\st.heap 1 0=some (.cells (fD w))/\st.env 3=.ptr 3 0 0/\st.heap 3 0=some (.cells (aW r))/\st.env 2=.ptr 2 0 0/\st.heap 2 0=some (.cells (aW bQ))/\st.env 5=aa k)/\k<=32/\m=32-k)
  (fun e st=>e=.exit 0/\∃r:bU,st.env 3=.ptr 3 0 0/\st.heap 3 0=some (.cells (aW r))/\st.env 2=.ptr 2 0 0/\st.heap 2 0=some (.cells (aW bQ))) 32 ?step ?start ?rest
 case step =>
  rintro m st ⟨k,r,D,hk,hm⟩
  by_cases A:(k:Int)<32
  ·have q0:(0:Int)<=k:=WF
   have hw:=wk (k:=k) WF
   obtain⟨i,hi⟩:∃i:Int,i=31-(k:Int):=⟨_,rfl⟩
   have C:i64.wrap (31-(k:Int))=i:=by rw[Dz _ WF WF,hi]
   have i0:0<=i:=WF
   have i1:i<32:=WF
   have Y:i64.wrap ((k:Int).tdiv 8)=(k:Int) / 8:=by rw[Int.tdiv_eq_ediv_of_nonneg q0,Dz _ WF WF]
   have W:0<=(k:Int) / 8:=WF
   have J:(k:Int) / 8<4:=WF
   have i31:i.toNat<=31:=WF
   have hs:¬i64.wrap (8 * i64.wrap ((k:Int).tmod 8))<0:=by rw[Int.tmod_eq_emod_of_nonneg q0,Dz ((k:Int) % 8) WF WF,Dz _ WF WF];omega
   have G:¬i64.wrap (8 * (k:Int).tmod 8)<0:=by rw[Int.tmod_eq_emod_of_nonneg q0,Dz _ WF WF];omega
   have N:=Ax w W J
   have M:=fun x=>Qa r i.toNat (i.toNat+1) x WF rfl
   apply oN (32-(k+1))
   ·simp only[Z8,seval,D,hs,G,A,q0,C,i0,i1,Y,W,J,Gy,aFO,N,i31,M,Kj,Nat.mul_one,hw];rfl
   ·exact⟨k+1,_,qc,WF,rfl⟩
  ·apply oT (.exit 0)
   ·simp only[Z8,seval,D,A];rfl
   ·exact⟨rfl,r,XC⟩
 case start=>exact⟨0,bQ,Wl,WF,WF⟩
 case rest =>
  rintro e st ⟨rfl,r,D⟩
  simp only[Z8,seval,D,S3,RR];exact⟨_,iI rfl (by simp only[E8,seval,D,S3,RR]<;>rfl) (by simp only[Z8,seval,D,S3,RR]<;>rfl) (by simp only[sB,and_self,D,S3,RR]),r,rfl⟩
def a5l (w:oG):∃r:bU,∀(st:St) (d:Option Nat),aO (aA prog) 269 [.agg (fD w)] st d=some { dst:=d,val:=.agg (aW r)}:=by
 obtain⟨r,h⟩:=a5k w
 exact⟨r,kx h (bZ (.agg _ (gM w))) (oE r)⟩
def aXt (x:oG):Wr 190 [.agg (fD x)] 32:=by
 intro l hl;suffices h:∃r,aA prog 190 [.uniq 5 1 l.length (gH l),.agg (fD x)]=some r/\∃m:List Int,r=.uniq 5 1 m.length (gH m)/\(m.length:Int)<=l.length+32 by
  obtain⟨r,h,m,rfl,h2⟩:=h;exact⟨m,h,h2⟩
 have G:bg l.length:=WF
 obtain⟨r,D⟩:=a5l x
 have X:bg r.toList.length:=qe
 rw[wF prog func190 rfl WP _ _ _ _ _ (cF _ _)]
 simp only[Z8,seval,fP,gT,fQ,fY,gU,D,ql,RR,aNg r,RP _ _ _ r,ET _ _ _ _ G X];exact⟨_,pP (.inl rfl) rfl Wl Wl (pQ _),_,rfl,by rw[length_append];simp⟩
def a5m (b:Bool):Wr 192 [ae b] 1:=by
 intro l hl;suffices h:∃r,aA prog 192 [.uniq 5 1 l.length (gH l),ae b]=some r/\∃m:List Int,r=.uniq 5 1 m.length (gH m)/\(m.length:Int)<=l.length+1 by
  obtain⟨r,h,m,rfl,h2⟩:=h;exact⟨m,h,h2⟩
 have G:bg l.length:=WF
 rw[wF prog func192 rfl WP _ _ _ _ _ (cF _ _)]
 cases b
 all_goals
  simp only[Z8,seval,fP,gT,fQ,fY,gU,xD _ _ _ _ G];exact⟨_,pP (.inl rfl) rfl Wl Wl (pQ _),_,rfl,yy⟩
def aNL:aP 0 3 1/\aP 1 4 6/\aP 2 2 9/\aP 3 3 11/\aP 4 7 12/\iW 5 9 (some 18)=[(3,5)]:=⟨rfl,rfl,rfl,rfl,rfl,rfl⟩
def aGT:aP 0 3 1/\aP 1 8 4/\aP 2 2 2/\iW 3 13 (some 12)=[(7,9)]:=⟨rfl,rfl,rfl,rfl⟩
def aPJ (V:Option (List Int)) (nV:((ol V).length:Int)<=1000):Wr 194 [ov aH V] 10010:=by
 intro l hl;suffices h:∃r,aA prog 194 [.uniq 5 1 l.length (gH l),ov aH V]=some r/\∃m:List Int,r=.uniq 5 1 m.length (gH m)/\(m.length:Int)<=l.length+10010 by
  obtain⟨r,h,m,rfl,h2⟩:=h;exact⟨m,h,h2⟩
 obtain⟨m1,e1,b1⟩:=(GL _ (jF ((ol V).length:Int))).at l
 rw[wF prog func194 rfl WP _ _ _ _ _ (cF _ _)]
 simp only[Z8,seval,fP,gT,fQ,fY,gU,e1];refine bP (fun m st=>∃(k:Nat) (p:List Int) (a g:Nat),(st.env 0=.own a g/\st.heap a g=some (.row 5 1 p.length (gH p))/\st.env 1=ov aH V/\st.env 12=ov aH V/\st.env 13=aa ((ol V).length)/\st.env 14=aa k)/\((a=11/\g<st.aJ 11)\/(a=32/\g<st.aJ 32))/\(p.length:Int)<=l.length+10+10 * k/\k<=(ol V).length/\m=(ol V).length-k)
  (fun e st=>e=.exit 0/\∃(p:List Int) (a g:Nat),(st.env 0=.own a g/\st.heap a g=some (.row 5 1 p.length (gH p)))/\(p.length:Int)<=l.length+10010) (ol V).length ?step ?start ?rest
 case step =>
  rintro m st ⟨k,p,a,g,D,u,hp,hk,hm⟩
  by_cases A:(k:Int)<(ol V).length
  case neg =>
   apply oT (.exit 0)
   ·simp only[Z8,seval,D,A];rfl
   ·exact⟨rfl,p,a,g,XC,WF⟩
  have q0:(0:Int)<=k:=WF
  have hw:=wk (k:=k) WF
  have fin:∀(S:List Int),(S.length:Int)<=p.length+10->(S.length:Int)<=l.length+10+10 * ((k+1:Nat):Int):=fun S h=>by omega
  by_cases J:(0:Int)<k
  case neg =>
   obtain⟨S,M,b2⟩:=(GL _ (jF (gx (0:Int) (ol V) (k:Int)))).at p
   rcases u with ⟨rfl,hg⟩|⟨rfl,hg⟩
   all_goals
    have N:=eq_false (Nat.ne_of_lt hg)
    apply oN ((ol V).length-(k+1))
    ·simp only[Z8,seval,D,N,A,q0,J,M,hw];rfl
    ·exact⟨k+1,S,_,_,⟨Wl,Wl,XC,XC,XC,qb⟩,.inr ⟨rfl,Yo⟩,fin S b2,WF,rfl⟩
  have DG:i64.wrap ((k:Int)-1)=(k:Int)-1:=Dz _ WF WF
  have G:(0:Int)<=(k:Int)-1:=WF
  have y1:(k:Int)-1<((ol V).length:Int):=WF
  obtain⟨S,M,b2⟩:=(GL _ (jF (i64.wrap (gx (0:Int) (ol V) (k:Int)-i64.wrap (gx (0:Int) (ol V) ((k:Int)-1)+1))))).at p
  rcases u with ⟨rfl,hg⟩|⟨rfl,hg⟩
  all_goals
   have N:=eq_false (Nat.ne_of_lt hg)
   apply oN ((ol V).length-(k+1))
   ·simp only[Z8,seval,D,N,A,q0,J,DG,G,y1,M,hw];rfl
   ·exact⟨k+1,S,_,_,⟨Wl,Wl,XC,XC,XC,qb⟩,.inr ⟨rfl,Yo⟩,fin S b2,WF,rfl⟩
 case start=>exact⟨0,m1,11,0,by simp only[E8,seval,fP,gT,fQ,fY,gU]<;>and_intros<;>rfl,.inl ⟨rfl,by simp only[E8,seval,fP,gT,fQ,fY,gU]<;>omega⟩,WF,WF,WF⟩
 case rest =>
  rintro e st ⟨rfl,p,a,g,D,hp⟩
  simp only[Z8,seval,D];exact⟨_,pP (.inl rfl) rfl Wl qc (pQ _),_,rfl,hp⟩
def a5n (a:qX) (V:Option (List Int)) (hV:a.dL=ov aH V) (S:((ol V).length:Int)<=1000) (J:Rg a.slot) (h2:Rg a.target.aG):∃r,aA prog 122 [au a]=some r/\oW r:=by
 have jw:=kx (gd V WF 1024) (aU (bR V) (.v _)) (.v _)
 obtain⟨e,he⟩:∃e,vM (ol V) 1024=e:=⟨_,rfl⟩
 rw[he] at jw;obtain⟨m1,A,b1⟩:=(n127 a.slot J).at
 obtain⟨m2,M,b2⟩:=(W4 a.root).at m1
 obtain⟨m3,C,b3⟩:=(aXr a.target h2).at m2
 obtain⟨m4,G,b4⟩:=(aPJ V S).at m3 (bZ (bR V))
 rw[Af prog func122 rfl WP WP _ (cF _ _) rfl]
 by_cases g:e=0
 ·simp only[ZG,seval,aNL,hV,jw,bt g,A,M,C,G,wA,wB,yI,yJ];exact⟨_,bT rfl rfl rfl qu qu,oW.some _ _⟩
 ·simp only[ZG,seval,aNL,hV,jw,bf g];exact⟨_,bT rfl rfl rfl Wl Wl,oW.none _⟩
def a5o (v:fM) (h:Rg v.tagged.tag):∃r,aA prog 125 [am v]=some r/\oW r:=by
 obtain⟨m1,A,b1⟩:=(n127 v.tagged.tag h).at
 obtain⟨m2,M,b2⟩:=(GL _ (jF v.kind)).at m1
 obtain⟨m3,C,b3⟩:=(W4 v.cJ).at m2
 rw[Af prog func125 rfl WP WP _ (cF _ _) rfl]
 by_cases g1:v.kind<1
 ·simp only[ZG,seval,aGT,g1];exact⟨_,bT rfl rfl rfl Wl Wl,oW.none _⟩
 by_cases g2:4<v.kind
 ·simp only[ZG,seval,aGT,g1,g2];exact⟨_,bT rfl rfl rfl Wl Wl,oW.none _⟩
 simp only[ZG,seval,aGT,g1,g2,A,M,C];exact⟨_,bT rfl rfl rfl qu qu,oW.some _ _⟩
def GM:aP 0 2 1/\aP 1 4 8/\aP 2 9 11/\aP 3 1 20/\aP 4 4 21/\aP 5 4 23/\aP 6 2 26/\iW 7 8 (some 27)=[(3,5)]/\aP 8 13 34/\aP 9 1 47/\aP 10 4 48/\aP 11 4 50/\aP 12 2 53/\aP 13 5 54:=⟨rfl,rfl,rfl,rfl,rfl,rfl,rfl,rfl,rfl,rfl,rfl,rfl,rfl,rfl⟩
def aKO {l:List bU} {x0 x1 x2:bU} (W:l=[x0,x1,x2]) (d:Nat) (a b c:Operand) (h0:st.ev a=.agg (aW x0)) (J:st.ev b=.agg (aW x1)) (h2:st.ev c=.agg (aW x2)) :
 cU prog call ops ⟨some d,.buildSlice 152 3 #[(0,a),(1,b),(2,c)],T,pos,aft,none⟩ st=some ((st.new d (.row 29 32 l.length (fN l))).put (some d) (.own d (st.aJ d))):=by
 subst W;rw[gF 152 _ _ _ KH,PK];have R:((List.range 3).flatMap fun _=>vC.map AV.v)=fN [bQ,bQ,bQ]:=by rw[jO];rfl
 have m:dE (fN [bQ,bQ,bQ]) 0 (aW x0) 32=fN [x0,bQ,bQ]:=wI iN [bQ,bQ,bQ] 0 x0 ZB
 have u1:dE (fN [x0,bQ,bQ]) 32 (aW x1) 64=fN [x0,x1,bQ]:=wI iN [x0,bQ,bQ] 1 x1 (by show 1<3;decide)
 have r:dE (fN [x0,x1,bQ]) 64 (aW x2) 96=fN [x0,x1,x2]:=wI iN [x0,x1,bQ] 2 x2 (by show 2<3;decide)
 simp only[cC,aPK,toList_toArray,map_cons,map_nil,all_cons,all_nil,h0,J,h2,AV.lL,Bool.and_self,uY,yH,AV.cells,iN,GN,length_cons,length_nil,R,Nat.reduceMul,Nat.reduceAdd,Nat.reducePow,Nat.reduceLeDiff,Nat.reduceLT,true_or,true_and,and_true,and_self,if_true,↓reduceIte,m,u1,r,Nat.zero_le,Nat.le_refl]
def aKP {l:List dH} {x0 x1 x2 x3:dH} (W:l=[x0,x1,x2,x3]) (d:Nat) (a b c e:Operand) (h0:st.ev a=ag x0) (J:st.ev b=ag x1) (h2:st.ev c=ag x2) (S:st.ev e=ag x3) :
 cU prog call ops ⟨some d,.buildSlice 250 4 #[(0,a),(1,b),(2,c),(3,e)],T,pos,aft,none⟩ st=some ((st.new d (.row 40 33 l.length (mJ l))).put (some d) (.own d (st.aJ d))):=by
 subst W;rw[gF 250 _ _ _ KH,pb];have R:((List.range 4).flatMap fun _=>Di.map AV.v)=mJ [dO,dO,dO,dO]:=by rw[Ae];rfl
 have m:dE (mJ [dO,dO,dO,dO]) 0 (bI x0) 33=mJ [x0,dO,dO,dO]:=wI nX [dO,dO,dO,dO] 0 x0 ZB
 have u1:dE (mJ [x0,dO,dO,dO]) 33 (bI x1) 66=mJ [x0,x1,dO,dO]:=wI nX [x0,dO,dO,dO] 1 x1 (by show 1<4;decide)
 have r:dE (mJ [x0,x1,dO,dO]) 66 (bI x2) 99=mJ [x0,x1,x2,dO]:=wI nX [x0,x1,dO,dO] 2 x2 (by show 2<4;decide)
 have G:dE (mJ [x0,x1,x2,dO]) 99 (bI x3) 132=mJ [x0,x1,x2,x3]:=wI nX [x0,x1,x2,dO] 3 x3 (by show 3<4;decide)
 simp only[cC,aOk,toList_toArray,map_cons,map_nil,all_cons,all_nil,h0,J,h2,S,AV.lL,Bool.and_self,uY,yH,AV.cells,nX,Pu,length_cons,length_nil,R,Nat.reduceMul,Nat.reduceAdd,Nat.reducePow,Nat.reduceLeDiff,Nat.reduceLT,true_or,true_and,and_true,and_self,if_true,↓reduceIte,m,u1,r,G,Nat.zero_le,Nat.le_refl]
def a5p (x:Block) (h:RB x):∃r,aA prog 121 [ah x]=some r/\∃m:List Int,r=.uniq 5 1 m.length (gH m):=by
 obtain⟨m1,e1,b1⟩:=(n127 x.slot h.sl).at
 obtain⟨l,W⟩:∃l,l=[x.root,x.parent,x.eQ]:=⟨_,rfl⟩
 obtain⟨c,G⟩:∃c,c=[x.dX,x.fin,x.dA.pj,x.dA.pf]:=⟨_,rfl⟩
 have nl:l.length=3:=by rw[W];rfl
 have nc:c.length=4:=by rw[G];rfl
 have rc:∀y∈c,Rg y.aG:=by rw[G];simp only[mem_cons,not_mem_nil,or_false];rintro y (rfl|rfl|rfl|rfl);exact h.j;exact h.f;exact h.pj;exact h.pf
 rw[Af prog func121 rfl WP WP _ (cF _ _) rfl]
 simp only[ZG,seval,GM,e1,xT,aKO W];refine jV (fun m st=>∃(k:Nat) (p:List Int) (a g:Nat),(st.env 1=.ptr 1 0 0/\st.heap 1 0=some (.cells (aY x))/\st.env 3=.own a g/\st.heap a g=some (.row 5 1 p.length (gH p))/\st.env 17=.own 17 0/\st.heap 17 0=some (.row 29 32 l.length (fN l))/\st.env 18=aa l.length/\st.env 19=aa k)/\((a=10/\g<st.aJ 10)\/(a=25/\g<st.aJ 25))/\(p.length:Int)<=10+32 * k/\k<=l.length/\m=l.length-k)
  (fun e st=>e=.exit 0/\∃(p:List Int) (a g:Nat),(st.env 1=.ptr 1 0 0/\st.heap 1 0=some (.cells (aY x))/\st.env 3=.own a g/\st.heap a g=some (.row 5 1 p.length (gH p)))/\(a≠30/\a≠1)/\(p.length:Int)<=200) l.length ?step ?start ?rest
 case step =>
  rintro m st ⟨k,p,a,g,D,u,hp,R,hm⟩
  by_cases A:(k:Int)<l.length
  case neg =>
   apply BW (.exit 0)
   ·simp only[ZG,seval,GM,D,A];rfl
   ·exact⟨rfl,p,a,g,XC,WF,WF⟩
  have q0:(0:Int)<=k:=WF
  have hw:=wk (k:=k) WF
  have ld:=aBN (T:=29) (n:=l.length) (k:=32) q0 A aOm ZB ZB
  obtain⟨S,M,b2⟩:=(W4 (gx bQ l (k:Int))).at p
  rcases u with ⟨rfl,hg⟩|⟨rfl,hg⟩
  all_goals
   have N:=eq_false (Nat.ne_of_lt hg)
   apply Ka (l.length-(k+1))
   ·simp only[ZG,seval,GM,D,N,A,q0,ld,M,hw];rfl
   ·exact⟨k+1,S,_,_,⟨XC,XC,Wl,Wl,XC,XC,XC,qb⟩,.inr ⟨rfl,Yo⟩,WF,WF,rfl⟩
 case start=>exact⟨0,m1,10,0,wx,.inl ⟨rfl,Yo⟩,WF,WF,rfl⟩
 case rest =>
  rintro e st ⟨rfl,p,a,g,D,u,hp⟩
  have ha1:(a=30)=False:=eq_false u.1
  have ha2:(1=a)=False:=eq_false (Ne.symm u.2)
  have J:(a=1)=False:=eq_false u.2
  obtain⟨X,M,b2⟩:=(aXt x.diff).at p
  obtain⟨p2,C,b3⟩:=(aXt x.Yx).at X
  simp only[ZG,seval,GM,D,ha1,ha2,J,M,C,xT,aKP G,wA,wB,yI,yJ];refine jV (fun m st=>∃(k:Nat) (p:List Int) (a g h:Nat),(st.env 1=.ptr 1 0 0/\st.heap 1 0=some (.cells (aY x))/\st.env 3=.own a g/\st.heap a g=some (.row 5 1 p.length (gH p))/\st.env 44=.own 44 h/\st.heap 44 h=some (.row 40 33 c.length (mJ c))/\st.env 45=aa c.length/\st.env 46=aa k)/\((a=33/\g<st.aJ 33)\/(a=52/\g<st.aJ 52))/\(p.length:Int)<=300+42 * k/\k<=c.length/\m=c.length-k)
   (fun e st=>e=.exit 2/\∃(p:List Int) (a g:Nat),(st.env 1=.ptr 1 0 0/\st.heap 1 0=some (.cells (aY x))/\st.env 3=.own a g/\st.heap a g=some (.row 5 1 p.length (gH p)))/\a≠1/\(p.length:Int)<=600) c.length ?Su ?Hg ?Bq
  case Su =>
   rintro m st ⟨k,p,a,g,h,D,u,hp,R,hm⟩
   by_cases A:(k:Int)<c.length
   case neg =>
    apply BW (.exit 2)
    ·simp only[ZG,seval,GM,D,A];rfl
    ·exact⟨rfl,p,a,g,XC,WF,WF⟩
   have q0:(0:Int)<=k:=WF
   have hw:=wk (k:=k) WF
   have ld:=BV (T:=40) (n:=c.length) (k:=33) q0 A aO0 ZB ZB
   obtain⟨S,M,b2⟩:=(aXr (gx dO c (k:Int)) (rc _ (lB q0 A))).at p
   rcases u with ⟨rfl,hg⟩|⟨rfl,hg⟩
   all_goals
    have N:=eq_false (Nat.ne_of_lt hg)
    apply Ka (c.length-(k+1))
    ·simp only[ZG,seval,GM,D,N,A,q0,ld,M,hw];rfl
    ·exact⟨k+1,S,_,_,h,⟨XC,XC,Wl,Wl,XC,XC,XC,qb⟩,.inr ⟨rfl,Yo⟩,WF,WF,rfl⟩
  case Hg=>exact⟨0,p2,33,_,_,⟨by simp only[E8,seval,D,ha2],by simp only[E8,seval,D,ha2],Wl,Wl,Wl,Wl,qb,qb⟩,.inl ⟨rfl,Yo⟩,WF,WF,rfl⟩
  case Bq =>
   rintro e st ⟨rfl,p,a,g,D,Y,hp⟩
   have ha3:(1=a)=False:=eq_false (Ne.symm Y)
   obtain⟨p3,e4,b4⟩:=(a5m x.oU).at p
   simp only[ZG,seval,GM,D,ha3,e4];exact⟨_,oH rfl Wl Wl (pR _),_,rfl⟩
def Zh:aP 0 3 1/\aP 1 1 4/\aP 2 7 8/\aP 3 1 15/\aP 4 4 16/\aP 5 4 18/\aP 6 2 21/\aP 7 3 23/\iW 8 11 (some 24)=[(3,5),(3,8),(6,8)]/\aP 9 5 34/\aP 10 2 38/\aP 11 3 39:=⟨rfl,rfl,rfl,rfl,rfl,rfl,rfl,rfl,rfl,rfl,rfl,rfl⟩
def n191 (c:dH) (h:Rg c.aG):da 191 [ag c] 42:=by
 suffices h:∃r,aA prog 191 [af,ag c]=some r/\∃m:List Int,r=.uniq 5 1 m.length (gH m)/\(m.length:Int)<=42 by
  obtain⟨r,h,m,rfl,h2⟩:=h;exact⟨m,h,h2⟩
 obtain⟨m1,A,b1⟩:=(n127 c.aG h).at
 obtain⟨m2,M,b2⟩:=(W4 c.root).at m1
 rw[Af prog func191 rfl WP WP _ (cF _ _) rfl]
 simp only[ZG,seval,aNK,A,M,wA,wB,yI,yJ];exact⟨_,oH rfl Wl Wl (pR _),_,rfl,WF⟩
def a5r (t:Table) (b:Option (List Int)) (hb:t.fL=ov bD b) (nb:((ol b).length:Int)<=1000) (rb:∀y∈ol b,Rg y) (rt:Rg t.ck.aG):∃r,aA prog 124 [ax t]=some r/\oW r:=by
 obtain⟨m1,e1,b1⟩:=(n191 t.ck rt).at
 obtain⟨m3,C,b3⟩:=(GL _ (jF ((ol b).length:Int))).at m1
 rw[dJ prog func124 rfl WP _ (cF _ _) rfl]
 have g1:¬(1024:Int)<((ol b).length:Int):=WF
 simp only[Z8,seval,hb,g1,e1,C];refine bP (fun m st=>∃(k:Nat) (p:List Int) (a g:Nat),(st.env 20=ov bD b/\st.env 21=aa ((ol b).length)/\st.env 4=.own a g/\st.heap a g=some (.row 5 1 p.length (gH p))/\st.env 22=aa k)/\((a=18/\g<st.aJ 18)\/(a=28/\g<st.aJ 28))/\(p.length:Int)<=100+10 * k/\k<=(ol b).length/\m=(ol b).length-k)
  (fun e st=>e=.exit 0/\∃(p:List Int) (a g:Nat),st.env 4=.own a g/\st.heap a g=some (.row 5 1 p.length (gH p))) (ol b).length ?step ?start ?rest
 case step =>
  rintro m st ⟨k,p,a,g,D,KX,hp,hk,hm⟩
  by_cases A:(k:Int)<(ol b).length
  case neg =>
   apply oT (.exit 0)
   ·simp only[Z8,seval,D,A];rfl
   ·exact⟨rfl,p,a,g,XC,XC⟩
  have q0:(0:Int)<=k:=WF
  have hw:=wk (k:=k) WF
  obtain⟨S,G,b4⟩:=(GL _ (rb _ (lB (z:=(0:Int)) q0 A))).at p
  rcases KX with ⟨rfl,hg⟩|⟨rfl,hg⟩
  all_goals
   have N:=eq_false (Nat.ne_of_lt hg)
   apply oN ((ol b).length-(k+1))
   ·simp only[Z8,seval,D,N,A,q0,G,hw];rfl
   ·exact⟨k+1,S,_,_,⟨XC,XC,Wl,Wl,qb⟩,.inr ⟨rfl,Yo⟩,WF,WF,rfl⟩
 case start=>exact⟨0,m3,18,_,qz,.inl ⟨rfl,Yo⟩,WF,WF,WF⟩
 case rest =>
  rintro e st ⟨rfl,p,a,g,X,u⟩
  simp only[Z8,seval,X,u];exact⟨_,bT rfl rfl rfl z9 z9,oW.some _ _⟩
def a5s (x:eZ) (J:yN x.first) (h2:yN x.second) (G:Rg x.first.source) (r2:Rg x.first.target) (r3:Rg x.second.source) (r4:Rg x.second.target):∃r,aA prog 123 [aw x]=some r/\oW r:=by
 obtain⟨V,hV,nV⟩:=id J
 obtain⟨W,hW,nW⟩:=id h2
 have p:=kx (gd V WF 1024) (aU (bR V) (.v _)) (.v _)
 have kW:=kx (gd W WF 1024) (aU (bR W) (.v _)) (.v _)
 obtain⟨ev,Iu⟩:∃e,vM (ol V) 1024=e:=⟨_,rfl⟩
 obtain⟨ew,Y⟩:∃e,vM (ol W) 1024=e:=⟨_,rfl⟩
 rw[Iu] at p;rw[Y] at kW;obtain⟨m1,A,b1⟩:=(n127 x.first.source G).at
 obtain⟨m2,M,b2⟩:=(GL x.first.target r2).at m1
 obtain⟨m3,C,b3⟩:=(W4 x.first.root).at m2
 obtain⟨m4,e4,b4⟩:=(aPJ V nV).at m3 (bZ (bR V))
 obtain⟨m5,e5,b5⟩:=(GL x.second.source r3).at m4
 obtain⟨m6,l,b6⟩:=(GL x.second.target r4).at m5
 obtain⟨m7,e7,b7⟩:=(W4 x.second.root).at m6
 obtain⟨m8,e8,b8⟩:=(aPJ W nW).at m7 (bZ (bR W))
 have u:i64.wrap 1=1:=ZB
 have w2:i64.wrap 2=2:=ZB
 rw[Af prog func123 rfl WP WP _ (cF _ _) rfl]
 simp only[ZG,seval,Zh,xT,aGH x];refine jV (fun m st=>∃k:Nat,(st.env 12=.own 12 0/\st.heap 12 0=some (.row 70 35 2 (bO x))/\st.env 13=aa 2/\st.env 14=aa k)/\(k=0/\st.env 4=af\/k=1/\(∃g,(st.env 4=.own 37 g/\st.heap 37 g=some (.row 5 1 m4.length (gH m4)))/\g<st.aJ 37)\/k=2/\∃g,st.env 4=.own 37 g/\st.heap 37 g=some (.row 5 1 m8.length (gH m8)))/\m=2-k)
  (fun e st=>(e=.ret/\∃e:Int,st.env 2=af/\st.env 3=aa e)\/(e=.exit 0/\∃g,st.env 4=.own 37 g/\st.heap 37 g=some (.row 5 1 m8.length (gH m8)))) 2 ?step ?start ?rest
 case step =>
  rintro m st ⟨k,D,R,hm⟩
  rcases R with ⟨rfl,X⟩|⟨rfl,g,X,hg⟩|⟨rfl,g,X⟩
  ·by_cases g1:ev=0
   ·apply Ka (1)
    ·simp only[ZG,seval,Zh,D,X,hV,p,bt g1,u,A,M,C,e4,wA,wB,yI,yJ];rfl
    ·exact⟨1,XC,.inr (.inl ⟨rfl,_,⟨Wl,Wl⟩,Yo⟩),rfl⟩
   ·apply BW (.ret)
    ·simp only[ZG,seval,Zh,D,hV,p,bf g1];rfl
    ·exact .inl ⟨rfl,ev,qb,qb⟩
  ·have N:(g=st.aJ 37)=False:=eq_false WF
   by_cases g1:ew=0
   ·apply Ka (0)
    ·simp only[ZG,seval,Zh,D,X,N,hW,kW,bt g1,w2,e5,l,e7,e8,wA,wB,yI,yJ];rfl
    ·exact⟨2,XC,.inr (.inr ⟨rfl,_,Wl,Wl⟩),rfl⟩
   ·apply BW (.ret)
    ·simp only[ZG,seval,Zh,D,hW,kW,bf g1];rfl
    ·exact .inl ⟨rfl,ew,qb,qb⟩
  ·apply BW (.exit 0)
   ·simp only[ZG,seval,Zh,D];rfl
   ·exact .inr ⟨rfl,g,nu,nu⟩
 case start=>exact⟨0,wx,.inl ⟨rfl,qb⟩,rfl⟩
 case rest =>
  rintro e st (⟨rfl,e,h2,S⟩|⟨rfl,g,X⟩)
  ·simp only[ZG,seval,Zh];exact⟨_,bT rfl rfl rfl (by simp only[E8,seval,h2,S]<;>rfl) (by simp only[E8,seval,h2,S]<;>rfl),oW.none _⟩
  ·simp only[ZG,seval,Zh,X];exact⟨_,bT rfl rfl rfl (by simp only[E8,seval,X,qQ]<;>rfl) (by simp only[E8,seval,X,qQ]<;>rfl),oW.some _ _⟩
def a5t (z:Int):aA prog 126 [aa z]=some (ae (decide (0<=z/\z<=32768))):=by
 rw[dJ prog func126 rfl WP _ (cF _ _) rfl]
 refine eM ?_
 by_cases g1:0<=z
 ·by_cases g2:z<=32768
  ·simp only[Z8,seval,g1,g2,and_self,decide_true];exact⟨_,bE rfl Wl XG,rfl⟩
  ·simp only[Z8,seval,g1,g2,and_false,decide_false];exact⟨_,bE rfl Wl XG,rfl⟩
 ·simp only[Z8,seval,g1,false_and,decide_false];exact⟨_,bE rfl Wl XG,rfl⟩
def aPL (z:Int) (st:St) (d:Option Nat):aO (aA prog) 126 [aa z] st d=some { dst:=d,val:=ae (decide (0<=z/\z<=32768))}:=kx (a5t z) (bZ (.v _)) (.v _) st d
def x66 (x:uI) (h:rW x):∃r,aA prog 66 [be x]=some r/\oW r:=by
 have p:=h.fl
 obtain⟨V,hV,S⟩:=h.Dy
 obtain⟨b,hb,nb,rb⟩:=h.EE
 obtain⟨r1,A,m1,rfl⟩:=a5p x.block h.rb
 have W:∀st:St,aO (aA prog) 121 [ah x.block] st (some 10)=_:=fun st=>gA (st:=st) (d:=10) (bZ (lF _)) A
 obtain⟨r2,M,o2,f2,rfl⟩:=a5n x.Dy V hV S h.ra.1 h.ra.2
 obtain⟨r3,C,o3,f3,rfl⟩:=a5s x.mQ h.c1 h.c2 h.rs.1 h.rs.2.1 h.rs.2.2.1 h.rs.2.2.2
 obtain⟨r4,G,o4,f4,rfl⟩:=a5r x.table b hb nb rb h.rt
 obtain⟨r5,D,o5,f5,rfl⟩:=a5o x.verdict h.rv
 have l:=kx M (bZ ((rS _).2 p.1)) (.cY _ (aU (pS _) (.v _)))
 have k3:=kx C (bZ ((jT _).2 ⟨p.2.1,p.2.2.1⟩)) (.cY _ (aU (pS _) (.v _)))
 have J:=kx G (bZ ((iQ _).2 p.2.2.2)) (.cY _ (aU (pS _) (.v _)))
 have R:=kx D (bZ (.agg _ (fJ _))) (.cY _ (aU (pS _) (.v _)))
 obtain⟨m6,e6,b6⟩:=(n127 _ (jF x.write)).at
 obtain⟨m7,N,b7⟩:=(GL _ (jF x.oM)).at m6
 rw[dJ prog func66 rfl WP _ (cF _ _) rfl]
 by_cases g2:x.kind=2
 ·simp only[Z8,seval,bt g2,W];exact⟨_,bT rfl rfl rfl qu qu,oW.some _ _⟩
 by_cases g3:x.kind=3
 ·simp only[Z8,seval,bf g2,bt g3,l,bW];exact⟨_,bT rfl rfl rfl qw qw,_,_,rfl⟩
 by_cases g4:x.kind=4
 ·simp only[Z8,seval,bf g2,bf g3,bt g4,k3,bW];exact⟨_,bT rfl rfl rfl qw qw,_,_,rfl⟩
 by_cases g5:x.kind=5
 ·simp only[Z8,seval,bf g2,bf g3,bf g4,bt g5,J,bW];exact⟨_,bT rfl rfl rfl qw qw,_,_,rfl⟩
 by_cases g6:x.kind=6
 ·simp only[Z8,seval,bf g2,bf g3,bf g4,bf g5,bt g6,R,bW];exact⟨_,bT rfl rfl rfl qw qw,_,_,rfl⟩
 by_cases g8:x.kind=8
 case neg =>
  simp only[Z8,seval,bf g2,bf g3,bf g4,bf g5,bf g6,bf g8];exact⟨_,bT rfl rfl rfl Wl Wl,oW.none _⟩
 by_cases u:0<=x.write/\x.write<=32768
 case neg =>
  simp only[Z8,seval,bf g2,bf g3,bf g4,bf g5,bf g6,bt g8,aPL,decide_eq_false u];exact⟨_,bT rfl rfl rfl Wl Wl,oW.none _⟩
 by_cases X:0<=x.oM/\x.oM<=32768
 case neg =>
  simp only[Z8,seval,bf g2,bf g3,bf g4,bf g5,bf g6,bt g8,aPL,decide_eq_true u,decide_eq_false X];exact⟨_,bT rfl rfl rfl Wl Wl,oW.none _⟩
 simp only[Z8,seval,bf g2,bf g3,bf g4,bf g5,bf g6,bt g8,aPL,decide_eq_true u,decide_eq_true X,e6,N];exact⟨_,bT rfl rfl rfl qu qu,oW.some _ _⟩
def a5u (a:qX) (V:Option (List Int)) (hV:a.dL=ov aH V):∃r,aA prog 128 [au a]=some r/\∃b:Bool,r=ae b:=by
 rw[dJ prog func128 rfl WP _ (cF _ _) rfl]
 by_cases g1:a.slot=0
 case neg =>
  simp only[Z8,seval,bf g1];exact⟨_,bE rfl Wl XG,_,rfl⟩
 by_cases g2:a.root=bQ
 case neg =>
  simp only[Z8,seval,bt g1,g2,decide_eq_false g2];exact⟨_,bE rfl Wl XG,_,rfl⟩
 by_cases g3:a.target=dO
 case neg =>
  simp only[Z8,seval,bt g1,g2,decide_true,decide_eq_false g3];exact⟨_,bE rfl Wl XG,_,rfl⟩
 ·simp only[Z8,seval,bt g1,g2,g3,hV,decide_true];exact⟨_,bE rfl Wl XG,_,rfl⟩
def aXu (a:Claim) (V:Option (List Int)) (hV:a.dL=ov aH V):∃r,aA prog 129 [av a]=some r/\∃b:Bool,r=ae b:=by
 rw[dJ prog func129 rfl WP _ (cF _ _) rfl]
 by_cases g1:a.source=0
 case neg =>
  simp only[Z8,seval,bf g1];exact⟨_,bE rfl Wl XG,_,rfl⟩
 by_cases g2:a.target=0
 case neg =>
  simp only[Z8,seval,bt g1,bf g2];exact⟨_,bE rfl Wl XG,_,rfl⟩
 by_cases g3:a.root=bQ
 case neg =>
  simp only[Z8,seval,bt g1,bt g2,decide_eq_false g3];exact⟨_,bE rfl Wl XG,_,rfl⟩
 ·simp only[Z8,seval,bt g1,bt g2,g3,hV,decide_true];exact⟨_,bE rfl Wl XG,_,rfl⟩
end Go.Ab.Tryz
