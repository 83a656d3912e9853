/-
  Part 15 of the proof: an evaluator of programs, its soundness, and what functions of this program compute.
-/
import Derived.Test.YthkgnakbkaafgaaGreatK14
import Derived.Test.YthkgnakbkaafgaaGreatK11
import Derived.Test.YthkgnakbkaafgaaGreatK13
import Derived.Test.YthkgnakbkaafgaaGreatK10
import Derived.Test.YthkgnakbkaafgaaGreatK4
set_option linter.all false
set_option maxRecDepth 20000
set_option maxHeartbeats 40000000
open Go.IntKind (i64)
open List Go.Proofs.Tryz
noncomputable section
namespace Go.Ab.Tryz
open Classical Go.Proofs Go.Ab
variable {α:Type} {x:AV} {cs:List AV} {d:Nat} {st:St}
def aVV (a:Table) (V:Option (List Int)) (Y:a.fL=ov bD V) (h:V≠some []) (M:bg (ol V).length):aA prog 152 [ax a]=some (ax a):=by
 rw[cL func152 rfl aVW rfl];simp only[Z8,seval,Y,rr V h M,NW];refine jE rfl qq (cs:=cH { a with fL:=rv 5 0 V }) Qbl ?_
 rw[dC,Wd,jU (e:=23) (sz:=1) (c:=bD) (L:=V) ?h (fun l _=>fB l),cC,cC,<- Y]
 case h =>
  intro l W;subst W;simp only[E8,seval,uZ,rl,length_cons,Nat.lt_add_left_iff_pos,Nat.zero_lt_succ,if_true]
def aBu (z:α) (l:List α) (k:Nat) (h:k<l.length):l.take k++[gx z l (k:Int)]=l.take (k+1):=by
 rw[take_succ_eq_append_getElem h];congr 2
 simp[gx,h]
def a3i (E:Option (List qX)) (h:E≠some []) (hn:bg (ol E).length) (M:∀a∈ol E,∃V,a.dL=ov aH (some V)/\V≠[]) (hA:∀a∈ol E,Dh a) :
 aA prog 115 [ov cN E,.v (.func (.func 116) #[] #[])]=some (uo 68 67 cN E):=by
 have p:∀y∈ol E,Flat y.dL:=fun y m=>(hA y m).fl
 have kg:∀k:Nat,k<(ol E).length->∀(st:St) (d:Option Nat),aO (aA prog) 116 [au (gx Sz (ol E) (k:Int))] st d=some { dst:=d,val:=au (gx Sz (ol E) (k:Int))}:=by
  intro k R st d;have hm:gx Sz (ol E) (k:Int)∈ol E:=by
   have:gx Sz (ol E) (k:Int)=(ol E)[k]:=by simp[gx,R]
   rw[this];exact getElem_mem R
  obtain⟨V,hV,Y⟩:=M _ hm
  obtain⟨V',hV',X⟩:=hA _ hm
  have hfa:Flat (au (gx Sz (ol E) (k:Int))):=(rS _).2 (hA _ hm).fl
  have e0:bg (ol (some V)).length:=by
   have h0:ov aH (some V)=ov aH V':=by rw[<- hV,<- hV']
   cases V' with
   | none=>cases h0
   | some W =>
     simp only[ov,AV.sl.injEq] at h0;simp only[ol,Option.getD_some] at X ⊢
     omega
  exact kx (aVT _ (some V) hV xn e0) (bZ hfa) hfa st d
 have hu:([ov cN E,.v (.func (.func 116) #[] #[])]:List AV).any tF=false:=by cases E<;>rfl
 rw[cL func115 rfl aVZ hu];simp only[Z8,seval];refine gL (fun m st=>∃k:Nat,(st.env 8=ov cN E/\st.env 9=aa ((ol E).length)/\st.env 10=aa k/\st.env 1=.v (.func (.func 116) #[] #[]))/\((k=0/\st.env 5=af)\/(0<k/\∃j,st.env 5=.own 19 j/\st.heap 19 j=some (.row 68 67 ((ol E).take k).length (cN ((ol E).take k)))))/\k<=(ol E).length/\m=(ol E).length-k)
  (fun e st=>e=.exit 0/\((ol E=[]/\st.env 5=af)\/(ol E≠[]/\∃j,st.env 5=.own 19 j/\st.heap 19 j=some (.row 68 67 (ol E).length (cN (ol E)))))) (ol E).length ?step ?start ?rest
 case step =>
  rintro m st ⟨k,D,N,R,hm⟩
  by_cases A:(k:Int)<(ol E).length
  ·have q0:(0:Int)<=k:=WF
   have hw:=wk (k:=k) WF
   have ht:=aBu Sz (ol E) k WF
   have kk:=kg k WF
   rcases N with ⟨S,C⟩|⟨S,j,C,r⟩
   ·have J:[gx Sz (ol E) (k:Int)]=(ol E).take (k+1):=Qba
    apply oN ((ol E).length-(k+1))
    ·simp only[Z8,seval,D,C,A,q0,kk,Bv 15 _ _ 116,CE,hw];rfl
    ·exact⟨k+1,⟨XC,XC,qb,XC⟩,.inr ⟨WF,_,Wl,by rw[<- J];simp only[E8,seval]<;>rfl⟩,WF,rfl⟩
   ·have ao:=fun s g=>Mq ((ol E).take k) (gx Sz (ol E) (k:Int)) s g Qcj
    apply oN ((ol E).length-(k+1))
    ·simp only[Z8,seval,D,C,r,A,q0,kk,Bv 15 _ _ 116,ao,hw];rfl
    ·exact⟨k+1,⟨XC,XC,qb,XC⟩,.inr ⟨WF,_,Wl,by rw[<- ht];simp only[E8,seval]<;>rfl⟩,WF,rfl⟩
  ·have G:k=(ol E).length:=WF
   have u:(ol E=[]/\st.env 5=af)\/(ol E≠[]/\∃j,st.env 5=.own 19 j/\st.heap 19 j=some (.row 68 67 (ol E).length (cN (ol E)))):=by
    rcases N with ⟨S,C⟩|⟨S,j,C,r⟩
    ·exact .inl ⟨eq_nil_of_length_eq_zero WF,C⟩
    ·exact .inr ⟨by intro h0;rw[h0] at G;simp at G;omega,j,C,by rw[r,G,take_length]⟩
   apply oT (.exit 0)
   ·simp only[Z8,seval,D,A];rfl
   ·exact⟨rfl,by simp only[E8,seval];exact u⟩
 case start=>exact⟨0,Qb0,.inl ⟨rfl,Wl⟩,WF,WF⟩
 case rest =>
  rintro e st ⟨rfl,N⟩
  rcases N with ⟨h0,C⟩|⟨h0,j,C,r⟩
  ·simp only[Z8,seval,C];cases E with
   | none=>exact bE rfl Wl (.v _)
   | some l=>exact absurd (show (some l:Option (List qX))=some [] by rw[show l=[] from h0]) h
  ·simp only[Z8,seval,C];cases E with
   | none=>exact absurd rfl h0
   | some l=>exact oH rfl Qb2 (by simp only[E8,seval];exact r) (uL _ p)
def a3k (E:Option (List qX)) (h:E≠some []) (M:bg (ol E).length) (hE:∀a∈ol E,∃V,a.dL=ov aH (some V)/\V≠[]) (hA:∀a∈ol E,Dh a) (st:St) (d:Nat) :
 aO (aA prog) 115 [ov cN E,.v (.func (.func 116) #[] #[])] st (some d)=some { dst:=some d,val:=rv d (st.aJ d) E,new:=Sl d (rl 68 67 cN E)} :=
 tZ (fun x m=>by
  rcases mem_cons.1 m with rfl|m
  ·exact DP E fun y m=>(hA y m).fl
  ·rw[mem_singleton.1 m];exact .v _) (a3i E h M hE hA)
def a3l (E:Option (List Table)) (h:E≠some []) (hn:bg (ol E).length) (M:∀a∈ol E,∃V,a.fL=ov bD (some V)/\V≠[]) (hA:∀a∈ol E,vY a) :
 aA prog 188 [ov bG E,.v (.func (.func 152) #[] #[])]=some (uo 74 34 bG E):=by
 have p:∀y∈ol E,Flat y.fL:=fun y m=>(hA y m).fl
 have kg:∀k:Nat,k<(ol E).length->∀(st:St) (d:Option Nat),aO (aA prog) 152 [ax (gx fW (ol E) (k:Int))] st d=some { dst:=d,val:=ax (gx fW (ol E) (k:Int))}:=by
  intro k R st d;have hm:gx fW (ol E) (k:Int)∈ol E:=by
   have:gx fW (ol E) (k:Int)=(ol E)[k]:=by simp[gx,R]
   rw[this];exact getElem_mem R
  obtain⟨V,hV,Y⟩:=M _ hm
  obtain⟨V',hV',X⟩:=hA _ hm
  have hfa:Flat (ax (gx fW (ol E) (k:Int))):=(iQ _).2 (hA _ hm).fl
  have e0:bg (ol (some V)).length:=by
   have h0:ov bD (some V)=ov bD V':=by rw[<- hV,<- hV']
   cases V' with
   | none=>cases h0
   | some W =>
     simp only[ov,AV.sl.injEq] at h0;simp only[ol,Option.getD_some] at X ⊢
     omega
  exact kx (aVV _ (some V) hV xn e0) (bZ hfa) hfa st d
 have hu:([ov bG E,.v (.func (.func 152) #[] #[])]:List AV).any tF=false:=by cases E<;>rfl
 rw[cL func188 rfl aV0 hu];simp only[Z8,seval];refine gL (fun m st=>∃k:Nat,(st.env 8=ov bG E/\st.env 9=aa ((ol E).length)/\st.env 10=aa k/\st.env 1=.v (.func (.func 152) #[] #[]))/\((k=0/\st.env 5=af)\/(0<k/\∃j,st.env 5=.own 19 j/\st.heap 19 j=some (.row 74 34 ((ol E).take k).length (bG ((ol E).take k)))))/\k<=(ol E).length/\m=(ol E).length-k)
  (fun e st=>e=.exit 0/\((ol E=[]/\st.env 5=af)\/(ol E≠[]/\∃j,st.env 5=.own 19 j/\st.heap 19 j=some (.row 74 34 (ol E).length (bG (ol E)))))) (ol E).length ?step ?start ?rest
 case step =>
  rintro m st ⟨k,D,N,R,hm⟩
  by_cases A:(k:Int)<(ol E).length
  ·have q0:(0:Int)<=k:=WF
   have hw:=wk (k:=k) WF
   have ht:=aBu fW (ol E) k WF
   have kk:=kg k WF
   rcases N with ⟨S,C⟩|⟨S,j,C,r⟩
   ·have J:[gx fW (ol E) (k:Int)]=(ol E).take (k+1):=Qba
    apply oN ((ol E).length-(k+1))
    ·simp only[Z8,seval,D,C,A,q0,kk,Bv 15 _ _ 152,PD,hw];rfl
    ·exact⟨k+1,⟨XC,XC,qb,XC⟩,.inr ⟨WF,_,Wl,by rw[<- J];simp only[E8,seval]<;>rfl⟩,WF,rfl⟩
   ·have ao:=fun s g=>We ((ol E).take k) (gx fW (ol E) (k:Int)) s g Qcj
    apply oN ((ol E).length-(k+1))
    ·simp only[Z8,seval,D,C,r,A,q0,kk,Bv 15 _ _ 152,ao,hw];rfl
    ·exact⟨k+1,⟨XC,XC,qb,XC⟩,.inr ⟨WF,_,Wl,by rw[<- ht];simp only[E8,seval]<;>rfl⟩,WF,rfl⟩
  ·have G:k=(ol E).length:=WF
   have u:(ol E=[]/\st.env 5=af)\/(ol E≠[]/\∃j,st.env 5=.own 19 j/\st.heap 19 j=some (.row 74 34 (ol E).length (bG (ol E)))):=by
    rcases N with ⟨S,C⟩|⟨S,j,C,r⟩
    ·exact .inl ⟨eq_nil_of_length_eq_zero WF,C⟩
    ·exact .inr ⟨by intro h0;rw[h0] at G;simp at G;omega,j,C,by rw[r,G,take_length]⟩
   apply oT (.exit 0)
   ·simp only[Z8,seval,D,A];rfl
   ·exact⟨rfl,by simp only[E8,seval];exact u⟩
 case start=>exact⟨0,Qb0,.inl ⟨rfl,Wl⟩,WF,WF⟩
 case rest =>
  rintro e st ⟨rfl,N⟩
  rcases N with ⟨h0,C⟩|⟨h0,j,C,r⟩
  ·simp only[Z8,seval,C];cases E with
   | none=>exact bE rfl Wl (.v _)
   | some l=>exact absurd (show (some l:Option (List Table))=some [] by rw[show l=[] from h0]) h
  ·simp only[Z8,seval,C];cases E with
   | none=>exact absurd rfl h0
   | some l=>exact oH rfl Qb2 (by simp only[E8,seval];exact r) (jL _ p)
def a3m (E:Option (List Table)) (h:E≠some []) (M:bg (ol E).length) (hE:∀a∈ol E,∃V,a.fL=ov bD (some V)/\V≠[]) (hA:∀a∈ol E,vY a) (st:St) (d:Nat) :
 aO (aA prog) 188 [ov bG E,.v (.func (.func 152) #[] #[])] st (some d)=some { dst:=some d,val:=rv d (st.aJ d) E,new:=Sl d (rl 74 34 bG E)} :=
 tZ (fun x m=>by
  rcases mem_cons.1 m with rfl|m
  ·exact mI E fun y m=>(hA y m).fl
  ·rw[mem_singleton.1 m];exact .v _) (a3l E h M hE hA)
def FL (f:Nat->AV->AV × List mH) (c:Nat) (xs ys:List AV):kH f c (xs++ys)=((kH f c xs).1++(kH f (c+(kH f c xs).2.length) ys).1,(kH f c xs).2++(kH f (c+(kH f c xs).2.length) ys).2):=by
 induction xs generalizing c with
 | nil=>simp[kH]
 | cons x xs S=>simp only[cons_append,kH,S,length_append,Nat.add_assoc,append_assoc]
theorem xG (d c:Nat) (h:Flat x):pG d c x=(x,[]):=je
def pT (d c:Nat) {xs:List AV} (h:∀x∈xs,Flat x):kH (pG d) c xs=(xs,[]):=by
 induction xs generalizing c with
 | nil=>rfl
 | cons x xs S=>simp only[kH,xG d c (h x qe),length_nil,Nat.add_zero,S c fun y m=>h y (by simp[m]),nil_append]
def SN (d c e sz:Nat) (cs:List α->List AV) (L:Option (List α)):kH (pG d) c [uo e sz cs L]=([rv d c L],rl e sz cs L):=du
def T9 (M:Flat (.agg cs)\/(kH (pG d) (st.aJ d) cs).2≠[]):jH (.agg cs) st (some d)=some { dst:=some d,val:=.agg (kH (pG d) (st.aJ d) cs).1,new:=Sl d (kH (pG d) (st.aJ d) cs).2 }:=by
 unfold jH;by_cases u:Flat (.agg cs)
 ·have G:∀x∈cs,Flat x:=by cases u with|agg _ h=>exact h
  rw[if_pos u,pT d _ G];rfl
 ·rw[if_neg u];have h2:=M.resolve_left u
  simp only[Sl,if_neg h2];rfl
def SO {call:Nat->List AV->Option AV} {g:Nat} {args:List AV} (W:∀x∈args,Flat x) (h:call g args=some (.agg cs)) (M:Flat (.agg cs)\/(kH (pG d) (st.aJ d) cs).2≠[]) :
 aO call g args st (some d)=some { dst:=some d,val:=.agg (kH (pG d) (st.aJ d) cs).1,new:=Sl d (kH (pG d) (st.aJ d) cs).2 }:=by
 unfold aO;rw[if_pos W,h,cC,T9 M]
def FM (st:St) (cs:List AV):Option (List AV):=bM (cs.map (kZ st))
def FN (st:St) (a b:List AV):FM st (a++b)=cT (FM st a) fun x=>cT (FM st b) fun y=>some (x++y):=by
 unfold FM;induction a with
 | nil=>simp[bM,cT];cases bM (b.map (kZ st))<;>rfl
 | cons c a S =>
   simp only[cons_append,map_cons];cases kZ st c with
   | none=>rfl
   | some c' =>
     simp only[bM,S];cases bM (a.map (kZ st))<;>simp[cT]<;>cases bM (b.map (kZ st))<;>rfl
def sK (h:∀c∈cs,Flat c):FM st cs=some cs:=by
 unfold FM;induction cs with
 | nil=>rfl
 | cons c cs S =>
   have J:kZ st c=some c:=if_pos (h c qe)
   simp only[map_cons,J,bM,S fun x N=>h x bw,Option.map_some]
def tU {y:AV} (h:kZ st x=some y):FM st [x]=some [y]:=by simp only[FM,map_cons,map_nil,h,bM,cR]
def Bc {ys:List AV} (h:FM st cs=some ys):Ev st (.agg cs)=some (.agg ys):=by
 show (bM (cs.map (kZ st))).map AV.agg=_
 rw[show bM (cs.map (kZ st))=some ys from h];rfl
def dP (h:Flat x):gP x=[]:=je
def mM (h:∀c∈cs,Flat c):cs.flatMap gP=[]:=by
 induction cs with
 | nil=>rfl
 | cons c cs S=>rw[flatMap_cons,dP (h c qe),S fun x N=>h x bw,nil_append]
def xH (d k:Nat) (L:Option (List α)):gP (rv d k L)=if L.isSome then [(d,k)] else []:=du
def Wp (st:St) (g:Nat):st.ev (.func g)=.v (.func (.func g) #[] #[]):=rfl
def a3n (T:Option (List Table)) (h:T≠some []) (M:bg (ol T).length) (hE:∀a∈ol T,∃V,a.fL=ov bD (some V)/\V≠[]) (hA:∀a∈ol T,vY a):aA prog 119 [ov bG T]=some (uo 74 34 bG T):=by
 have p:∀y∈ol T,Flat y.fL:=fun y m=>(hA y m).fl
 rw[cL func119 rfl aV1 (by cases T<;>rfl)]
 simp only[Z8,seval,Wp,a3m T h M hE hA,NW];cases T with
 | none=>exact bE rfl Wl (.v _)
 | some l=>exact oH rfl Wl (by simp only[E8,seval,uZ,rl,length_cons,Nat.lt_add_left_iff_pos,Nat.zero_lt_succ,if_true]<;>rfl) (jL _ p)
def a3o (T:Option (List Table)) (h:T≠some []) (M:bg (ol T).length) (hE:∀a∈ol T,∃V,a.fL=ov bD (some V)/\V≠[]) (hA:∀a∈ol T,vY a) (st:St) (d:Nat) :
 aO (aA prog) 119 [ov bG T] st (some d)=some { dst:=some d,val:=rv d (st.aJ d) T,new:=Sl d (rl 74 34 bG T)}:=tZ (bZ (mI T fun y m=>(hA y m).fl)) (a3n T h M hE hA)
def a3p (L:Option (List lO)) (Q:Option (List Int)) (J:L≠some []) (h2:Q≠some []) (G:bg (ol L).length) (N:bg (ol Q).length) :
 aA prog 114 [az ⟨ov dF L,ov aH Q⟩]=some (az ⟨uo 167 34 dF L,uo 3 1 aH Q⟩):=by
 rw[cL func114 rfl aV2 rfl];simp only[Z8,seval,a3d L J G,aVR Q h2 N,NW];refine Bw rfl (.inl rfl) rfl (x:=az ⟨rv 5 0 L,rv 8 0 Q⟩) (by simp only[bC,Z8,seval,NW]) ?_ (Bc ?_)
 ·simp only[nD,jB,dQ,flatMap_append,flatMap_cons,flatMap_nil,append_nil,xH];cases L<;>cases Q<;>simp
 ·unfold dQ;rw[FN,tU (lC (e:=167) (sz:=34) (c:=dF) ?_ fun l _=>mR l),cC,tU (lC (e:=3) (sz:=1) (c:=aH) ?_ fun l _=>eP l),cC]
  ·intro l W;subst W;simp only[E8,seval,uZ,rl,length_cons,Nat.lt_add_left_iff_pos,Nat.zero_lt_succ,if_true]<;>rfl
  ·intro l W;subst W;simp only[E8,seval,uZ,rl,length_cons,Nat.lt_add_left_iff_pos,Nat.zero_lt_succ,if_true]<;>rfl
def FO (d c:Nat) (L:Option (List lO)) (Q:Option (List Int)):kH (pG d) c (dQ ⟨uo 167 34 dF L,uo 3 1 aH Q⟩)=(dQ ⟨rv d c L,rv d (c+(rl 167 34 dF L).length) Q⟩,rl 167 34 dF L++rl 3 1 aH Q):=by
 unfold dQ;rw[FL,SN,SN]
def a3q (L:Option (List lO)) (Q:Option (List Int)) (J:L≠some []) (h2:Q≠some []) (G:bg (ol L).length) (N:bg (ol Q).length) (st:St) (d:Nat) :
 aO (aA prog) 114 [az ⟨ov dF L,ov aH Q⟩] st (some d)=some { dst:=some d,val:=az ⟨rv d (st.aJ d) L,rv d (st.aJ d+(rl 167 34 dF L).length) Q⟩,new:=Sl d (rl 167 34 dF L++rl 3 1 aH Q)}:=by
 rw[SO (bZ (.agg _ (rQ _ (uW L) (bR Q)))) (a3p L Q J h2 G N) ?_,FO];rw[FO];cases L with
 | some l=>exact .inr (by simp[rl])
 | none =>
   cases Q with
   | some q=>exact .inr (by simp[rl])
   | none=>exact .inl (.agg _ (rQ _ (.v _) (.v _)))
def Rn (s:aF) (b l q e o n t:AV):aF:={ s with cFg:={ s.cFg with fL:=b },dI:=⟨l,q⟩,bH:=⟨e,o⟩,tree:=⟨n⟩,tables:=t }
def SP (h:cZ x):Flat x:=by
 induction h<;>grind [Flat.v,Flat.agg,Flat.cY]
def Kq {P:AV->Prop} (A:∀x,cZ x->P x) (s:aF) {b l q e o n t:AV} (h1:P b) (h2:P l) (h3:P q) (h4:P e) (h5:P o) (h6:P n) (h7:P t):∀c∈aB (Rn s b l q e o n t),P c:=by
 simp only[Rn,aB,bX,dQ,kY,mX];have a {x y:List AV} (p:∀c∈x,P c) (q:∀c∈y,P c):∀c∈x++y,P c:=fun c m=>(mem_append.1 m).elim (p c) (q c)
 have f {x:List AV} (p:∀c∈x,cZ c):∀c∈x,P c:=fun c m=>A c (p c m)
 have g {x:AV} (p:P x):∀c∈[x],P c:=fun c m=>by grind
 grind [ZU,Bx,PE,vD,LC]
def Hp (s:aF) {b l q e o n t b' l' q' e' o' W D:AV} (J:kZ st b=some b') (h2:kZ st l=some l') (S:kZ st q=some q') (X:kZ st e=some e') (C:kZ st o=some o') (r:kZ st n=some W) (u:kZ st t=some D) :
 FM st (aB (Rn s b l q e o n t))=some (aB (Rn s b' l' q' e' o' W D)):=by
 simp only[Rn,aB,bX,dQ,kY,mX,FN,tU J,tU h2,tU S,tU X,tU C,tU r,tU u,sK (sL _),sK (eA _),sK (gM _),sK (dR _),sK (kL _),cC]
def qU (s:aF) (b l q e o n t:AV):(aB (Rn s b l q e o n t)).flatMap gP=gP b++(gP l++(gP q++(gP e++(gP o++(gP n++gP t))))):=by
 simp only[Rn,aB,bX,dQ,kY,mX,flatMap_append,flatMap_cons,flatMap_nil,append_nil,mM (sL _),mM (eA _),mM (gM _),mM (dR _),mM (kL _),nil_append,append_assoc]
def iC (e sz:Nat) (c:List α->List AV) (l:List α):rl e sz c (some l)=[.row e sz l.length (c l)]:=rfl
def c63 {s:aF} {v:SV} (hs:SD s v) (S:NEv v) (hB:v.B≠some []) (hL:v.L≠some []) (D:0<v.ns.length) :
 aA prog 63 [bc s]=some (bc (Rn s (uo 23 1 bD v.B) (uo 167 34 dF v.L) (uo 3 1 aH v.Q) (uo 68 67 cN v.E) (uo 66 238 aK v.O) (.uniq 84 240 v.ns.length (bS v.ns)) (uo 74 34 bG v.T))):=by
 have C:s.dI=⟨ov dF v.L,ov aH v.Q⟩:=by
  have h1:=hs.cJ
  have h2:=hs.dM
  cases hc:s.dI<;>grind
 rw[cL func63 rfl a3r rfl];simp only[Z8,seval,hs.fL,C,hs.early,hs.bL,hs.tree,hs.tables,Wp,NW,rr v.B hB hs.nB,a3q v.L v.Q hL S.q hs.nL hs.nQ,a3k v.E S.e hs.nE S.ea hs.eV,a3g v.O hs.nO,aO3 v.ns D hs.nn,a3o v.T S.t hs.nT S.tb hs.tB];refine Bw rfl (.inl rfl) rfl (x:=bc (Rn s (rv 6 0 v.B) (rv 11 0 v.L) (rv 11 (rl 167 34 dF v.L).length v.Q) (rv 16 0 v.E) (rv 22 0 v.O) (.own 27 0) (rv 31 0 v.T))) ?x1 ?x2 (Bc (Hp s ?b1 ?l1 ?q1 ?e1 ?o1 ?n1 ?t1))
 case x1=>simp only[bC,Z8,seval,NW,Rn]
 case x2 =>
  show ((aB _).flatMap gP).Nodup
  rw[qU];simp only[xH,show ∀a b,gP (.own a b)=[(a,b)] from fun _ _=>rfl]
  cases v.B<;>cases hvl:v.L<;>cases v.Q<;>cases v.E<;>cases v.O<;>cases v.T<;>simp[rl]
 case b1=>exact lC (fun l W=>wo) fun l _=>fB l
 case l1 =>
  refine lC (fun l W=>?_) fun l _=>mR l
  simp only[E8,seval,NW,W,iC];simp
 case q1 =>
  refine lC (fun l W=>?_) fun l _=>eP l
  simp only[E8,seval,NW,W,iC];simp
 case e1=>exact lC (fun l W=>wo) fun l W=>uL l fun y m=>(hs.eV y (by rw[W];exact m)).fl
 case o1=>exact lC (fun l W=>wo) fun l _=>jA l
 case n1=>exact lC (L:=some v.ns) (fun l W=>by cases W;simp only[E8,seval,NW,iC,length_cons,length_nil,Nat.lt_add_left_iff_pos,Nat.zero_lt_succ,if_true]<;>rfl) fun l _=>iG l
 case t1=>exact lC (fun l W=>wo) fun l W=>jL l fun y m=>(hs.tB y (by rw[W];exact m)).fl
end Go.Ab.Tryz
section
namespace Go.Ab.Tryz
open Classical Go.Proofs Go.Ab
variable {α:Type} {l m:List Nat} {a xs:List AV} {e sz g:Nat} {b:Bool}
theorem iL (d k:Nat) (l:List α):rv d k (some l)=.own d k:=rfl
def nJ (d k:Nat):rv d k (none:Option (List α))=af:=rfl
structure CP (s:aF) (v:SV):Prop where
 sd:SD s v
 ne:NEv v
 nB:v.B≠some []
 nL:v.L≠some []
 pos:0<v.ns.length
def ZV (l:List Nat) (a b:List AV):∀k,Ja l k (a++b)=Ja l k a++Ja l (k+a.length) b:=by
 induction a with
 | nil=>exact fun k=>rfl
 | cons x a S=>exact fun k=>by simp only[cons_append,Ja,S,length_cons,Nat.add_assoc,Nat.add_comm 1]
def sM (h:∀x∈a,Flat x):∀k,Ja l k a=a:=by
 induction a with
 | nil=>exact fun k=>rfl
 | cons x a S=>exact fun k=>by simp only[Ja,Wq (h x qe),S fun y m=>h y (by simp[m])]
def ZW (l:List Nat) (k:Nat) (x:AV):Ja l k [x]=[O7 (l.contains k) x]:=rfl
def XL (a:List AV):Prop:=∀x∈a,Yq x
theorem XL.app {b:List AV} (h:XL a) (g:XL b):XL (a++b):=fun x m=>(mem_append.1 m).elim (h x) (g x)
def FP {x:AV} (h:Flat x):Yq x:=by have g:=h;cases h<;>exact g
theorem XL.flat (h:∀x∈a,Flat x):XL a:=fun x m=>FP (h x m)
theorem XL.one {x:AV} (h:Yq x):XL [x]:=fun y m=>by rw[mem_singleton.1 m];exact h
def ZX {c:List α->List AV} {L:Option (List α)} (h:∀x∈c (ol L),Flat x):Yq (uo e sz c L):=by
 cases L with
 | none=>exact .v _
 | some l=>exact h
def pk (b:Bool) (e sz:Nat) (c:List α->List AV) (L:Option (List α)):AV:=bif b then uo e sz c L else ov c L
def pv (b:Bool) (d k:Nat) (c:List α->List AV) (L:Option (List α)):AV:=bif b then rv d k L else ov c L
def pr (b:Bool) (e sz:Nat) (c:List α->List AV) (L:Option (List α)):List mH:=bif b then rl e sz c L else []
def aO4 (b:Bool) (e sz:Nat) (c:List α->List AV) (L:Option (List α)):O7 b (uo e sz c L)=pk b e sz c L:=by cases b<;>cases L<;>rfl
def Ak {c:List α->List AV} {L:Option (List α)} (h:Flat (ov c L)) (d k:Nat):kH (pG d) k [pk b e sz c L]=([pv b d k c L],pr b e sz c L):=by
 cases b with
 | false=>exact pT d k (bZ h)
 | true=>exact SN d k e sz c L
def Al {c:List α->List AV} {L:Option (List α)} (h:Flat (ov c L)) (g:pr b e sz c L=[]):Flat (pk b e sz c L):=by
 cases b with
 | false=>exact h
 | true=>cases L with
   | none=>exact .v _
   | some l=>cases g
def zS (s:aF) (v:SV) (l:List Nat):aF:=Rn s (pk (l.contains 44) 23 1 bD v.B) (pk (l.contains 45) 167 34 dF v.L) (pk (l.contains 46) 3 1 aH v.Q) (pk (l.contains 113) 68 67 cN v.E) (pk (l.contains 114) 66 238 aK v.O) (pk (l.contains 115) 84 240 bS (some v.ns)) (pk (l.contains 149) 74 34 bG v.T)
def aGc {s:aF} {v:SV} (hs:SD s v):Flat (ov bD v.B)/\Flat (ov dF v.L)/\Flat (ov aH v.Q)/\Flat (ov cN v.E)/\Flat (ov aK v.O)/\Flat (ov bS (some v.ns))/\Flat (ov bG v.T):=by
 have:=hs.fl
 rw[hs.fL,hs.cJ,hs.dM,hs.early,hs.bL,hs.tree,hs.tables] at this;exact this
def FQ {c:List α->List AV} {L:Option (List α)} (h:∀x∈c (ol L),Flat x) (g:Flat (ov c L)):Yq (pk b e sz c L):=by
 cases b with
 | true=>exact ZX h
 | false=>exact XL.one (by cases L<;>exact g) _ (mem_singleton.2 rfl)
def aO5 (b X:Bool) (e sz:Nat) (c:List α->List AV) (L:Option (List α)):O7 b (pk X e sz c L)=pk (X && b) e sz c L:=by cases b<;>cases X<;>cases L<;>rfl
def aGd {s:aF} {v:SV} (hs:SD s v) (l':List Nat) (W:∀x∈xs,Flat x) (h:aA prog g xs=some (bc (zS s v l))):Oo l' (aA prog) g xs=some (bc (zS s v (l.filter l'.contains))):=by
 obtain⟨J,h2,S,X,C,r,h7⟩:=aGc hs
 have u:XL (aB (zS s v l)):=Kq (fun x h=>FP (SP h)) s (FQ (fB _) J) (FQ (mR _) h2) (FQ (eP _) S) (FQ (uL _ fun y m=>(hs.eV y m).fl) X) (FQ (jA _) C) (FQ (iG _) r) (FQ (jL _ fun y m=>(hs.tB y m).fl) h7)
 unfold Oo;rw[if_pos W,h,cC];refine (if_pos u).trans ?_
 have e:∀k,(l.filter l'.contains).contains k=(l.contains k && l'.contains k):=fun k=>by
  rw[Bool.eq_iff_iff];simp
 simp only[Rn,zS,aB,bX,dQ,kY,mX,ZV,sM (sL _),sM (eA _),sM (gM _),sM (dR _),sM (kL _),ZW,aO5,e,length_append,length_cons,length_nil,Zd,tV,sN,iN,Oz,Nat.reduceAdd]<;>rfl
def zR (v:SV) (l:List Nat):List mH:=pr (l.contains 44) 23 1 bD v.B++(pr (l.contains 45) 167 34 dF v.L++(pr (l.contains 46) 3 1 aH v.Q++(pr (l.contains 113) 68 67 cN v.E++(pr (l.contains 114) 66 238 aK v.O++(pr (l.contains 115) 84 240 bS (some v.ns)++pr (l.contains 149) 74 34 bG v.T)))))
def zV (s:aF) (v:SV) (l:List Nat) (d c:Nat):aF :=
 let a:=c+(pr (l.contains 44) 23 1 bD v.B).length
 let b:=a+(pr (l.contains 45) 167 34 dF v.L).length
 let e:=b+(pr (l.contains 46) 3 1 aH v.Q).length
 let f:=e+(pr (l.contains 113) 68 67 cN v.E).length
 let g:=f+(pr (l.contains 114) 66 238 aK v.O).length
 let i:=g+(pr (l.contains 115) 84 240 bS (some v.ns)).length
 Rn s (pv (l.contains 44) d c bD v.B) (pv (l.contains 45) d a dF v.L) (pv (l.contains 46) d b aH v.Q) (pv (l.contains 113) d e cN v.E) (pv (l.contains 114) d f aK v.O) (pv (l.contains 115) d g bS (some v.ns)) (pv (l.contains 149) d i bG v.T)
def CI {s:aF} {v:SV} (hs:SD s v) (l:List Nat) (d c:Nat):kH (pG d) c (aB (zS s v l))=(aB (zV s v l d c),zR v l):=by
 obtain⟨J,h2,S,X,C,r,u⟩:=aGc hs
 simp only[zS,zV,zR,Rn,aB,bX,dQ,kY,mX,FL,Ak J,Ak h2,Ak S,Ak X,Ak C,Ak r,Ak u,pT d _ (sL _),pT d _ (eA _),pT d _ (gM _),pT d _ (dR _),pT d _ (kL _),nil_append,length_nil,Nat.add_zero,append_assoc,length_append,Nat.add_assoc,append_nil]
def SQ {s:aF} {v:SV} (hs:SD s v) (l:List Nat) (d c:Nat):Flat (bc (zS s v l))\/(kH (pG d) c (aB (zS s v l))).2≠[]:=by
 rw[CI hs];by_cases h:zR v l=[]
 ·obtain⟨J,h2,S,X,C,r,u⟩:=aGc hs
  simp only[zR,List.append_eq_nil_iff] at h;exact .inl ((yE _).2 ⟨Al J h.1,Al h2 h.2.1,Al S h.2.2.1,Al X h.2.2.2.1,Al C h.2.2.2.2.1,Al r h.2.2.2.2.2.1,Al u h.2.2.2.2.2.2⟩)
 ·exact .inr h
def kz {s:aF} {v:SV} (hs:SD s v) {l':List Nat} (W:∀x∈xs,Flat x) (h:aA prog g xs=some (bc (zS s v l))) (st:St) (d:Nat) (e:l.filter l'.contains=m:=by rfl):aO (Oo l' (aA prog)) g xs st (some d)=some { dst:=some d,val:=bc (zV s v m d (st.aJ d)),new:=Sl d (zR v m)}:=by
 subst e;rw[SO W (aGd hs l' W h) (SQ hs _ d _),CI hs]
def aO6 (s:aF) (v:SV):zS s v [44,45,46,113,114,115,149]=Rn s (uo 23 1 bD v.B) (uo 167 34 dF v.L) (uo 3 1 aH v.Q) (uo 68 67 cN v.E) (uo 66 238 aK v.O) (.uniq 84 240 v.ns.length (bS v.ns)) (uo 74 34 bG v.T):=by
 simp only[zS,pk,List.contains_cons,contains_nil,Nat.reduceBEq,Bool.or_false,Bool.or_true,Bool.false_or,Bool.true_or,cond_true];rfl
def LD {s:aF} {v:SV} (h:CP s v) (l':List Nat) (st:St) (d:Nat) (e:[44,45,46,113,114,115,149].filter l'.contains=m:=by rfl):aO (Oo l' (aA prog)) 63 [bc s] st (some d)=some { dst:=some d,val:=bc (zV s v m d (st.aJ d)),new:=Sl d (zR v m)} :=
 kz h.sd (bZ h.sd.flat) (by rw[aO6];exact c63 h.sd h.ne h.nB h.nL h.pos) st d e
def Pa {s:aF} {v:SV} (hs:SD s v):ov bS (some v.ns)=s.tree.nodes:=by rw[hs.tree];rfl
section
variable {s:aF} {v:SV} (hs:SD s v) (d c:Nat)
include hs
theorem ZY:zV s v [] d c=s/\zR v []=[]:=qa
theorem gb:zV s v [114] d c={ s with bH:={ s.bH with bL:=rv d c v.O }}/\zR v [114]=rl 66 238 aK v.O:=qa
theorem aV3:zV s v [113] d c={ s with bH:={ s.bH with early:=rv d c v.E }}/\zR v [113]=rl 68 67 cN v.E:=qa
theorem a3s:zV s v [46] d c={ s with dI:={ s.dI with dM:=rv d c v.Q }}/\zR v [46]=rl 3 1 aH v.Q:=qa
theorem a3t:zV s v [149] d c={ s with tables:=rv d c v.T }/\zR v [149]=rl 74 34 bG v.T:=qa
theorem aNs:zV s v [45,113] d c={ s with dI:={ s.dI with cJ:=rv d c v.L },bH:={ s.bH with early:=rv d (c+(rl 167 34 dF v.L).length) v.E }}/\zR v [45,113]=rl 167 34 dF v.L++rl 68 67 cN v.E:=qa
theorem aV4:zV s v [114,149] d c={ s with bH:={ s.bH with bL:=rv d c v.O },tables:=rv d (c+(rl 66 238 aK v.O).length) v.T }/\zR v [114,149]=rl 66 238 aK v.O++rl 74 34 bG v.T:=qa
end
end Go.Ab.Tryz
end
namespace Go.Ab.Tryz
open Classical Go.Proofs Go.Ab
def gd (o:Option (List Int)) (hn:bg (ol o).length) (n:Int):aA prog 193 [ov aH o,aa n]=some (aa (vM (ol o) n)):=by
 rw[cL func193 rfl aV5 wa]
 refine eM ?_
 by_cases h0:ol o=[]
 ·have C:vM (ol o) n=2:=if_pos h0
  have W:(ol o).length=0:=by rw[h0];rfl
  simp only[Z8,seval,W];exact⟨_,bE rfl wh Qa1,rfl⟩
 have W:=bf (x:=((ol o).length:Int)) (y:=0) (by have:=length_pos_iff.2 h0;omega)
 simp only[Z8,seval,W];refine bP (fun m st=>∃k:Nat,(st.env 0=ov aH o/\st.env 1=aa n/\st.env 10=ov aH o/\st.env 11=aa ((ol o).length)/\st.env 12=aa k)/\(∀j:Nat,j<k->¬Cp (ol o) n j)/\k<=(ol o).length/\m=(ol o).length-k)
  (fun e st=>(e=.ret/\∃k:Nat,k<(ol o).length/\Cp (ol o) n k/\(∀j:Nat,j<k->¬Cp (ol o) n j)/\st.env 4=aa (if gx (0:Int) (ol o) k<0\/n<=gx (0:Int) (ol o) k then 3 else 8))\/(e=.exit 0/\∀j:Nat,j<(ol o).length->¬Cp (ol o) n j)) (ol o).length ?step ?start ?rest
 case step =>
  rintro m st ⟨k,D,Y,R,hm⟩
  by_cases A:(k:Int)<(ol o).length
  ·have q0:(0:Int)<=k:=WF
   have hw:=wk (k:=k) WF
   by_cases J:gx (0:Int) (ol o) k<0
   ·apply oT (.ret)
    ·simp only[Z8,seval,D,A,q0,J];rfl
    ·exact .inl ⟨rfl,k,WF,.inl J,Y,by simp only[E8,seval,J,true_or]⟩
   by_cases h2:n<=gx (0:Int) (ol o) k
   ·apply oT (.ret)
    ·simp only[Z8,seval,D,A,q0,J,h2];rfl
    ·exact .inl ⟨rfl,k,WF,.inr (.inl h2),Y,by simp only[E8,seval,h2,or_true]⟩
   by_cases S:(0:Int)<k
   ·have q1:(0:Int)<=(k:Int)-1:=WF
    have N:(k:Int)-1<(ol o).length:=WF
    have p:i64.wrap ((k:Int)-1)=(k:Int)-1:=yq
    by_cases X:gx (0:Int) (ol o) k<=gx (0:Int) (ol o) ((k:Int)-1)
    ·apply oT (.ret)
     ·simp only[Z8,seval,D,A,q0,q1,N,p,J,h2,S,X];rfl
     ·exact .inl ⟨rfl,k,WF,.inr (.inr ⟨WF,X⟩),Y,by simp only[E8,seval,J,h2,or_self]⟩
    ·apply oN ((ol o).length-(k+1))
     ·simp only[Z8,seval,D,A,q0,q1,N,p,J,h2,S,X,hw];rfl
     ·exact⟨k+1,XC,fun j h=>(Nat.lt_succ_iff_lt_or_eq.1 h).elim (Y j) fun e=>by subst e;unfold Cp;simp only[J,h2,X,and_false,or_self,not_false_eq_true],WF,rfl⟩
   ·have h5:¬(0<k):=WF
    apply oN ((ol o).length-(k+1))
    ·simp only[Z8,seval,D,A,q0,J,h2,S,hw];rfl
    ·exact⟨k+1,XC,fun j h=>(Nat.lt_succ_iff_lt_or_eq.1 h).elim (Y j) fun e=>by subst e;unfold Cp;simp only[J,h2,h5,false_and,or_self,not_false_eq_true],WF,rfl⟩
  ·apply oT (.exit 0)
   ·simp only[Z8,seval,D,A];rfl
   ·exact .inr ⟨rfl,fun j h=>Y j WF⟩
 case start=>exact⟨0,by simp only[E8,seval]<;>exact⟨rfl,rfl,rfl,rfl,rfl⟩,fun j h=>WF,WF,WF⟩
 case rest =>
  rintro e st (⟨rfl,k,R,u,Y,h⟩|⟨rfl,Y⟩)
  ·have C:vM (ol o) n=if gx (0:Int) (ol o) k<0\/n<=gx (0:Int) (ol o) k then 3 else 8:=by
    unfold vM;rw[if_neg h0,Ad u Y _ R,if_neg WF]
   rw[<- C] at h;simp only[Z8,seval];exact⟨_,bE rfl qm vd,rfl⟩
  ·have C:vM (ol o) n=0:=by
    unfold vM;rw[if_neg h0,pN _ Y,if_pos WF]
   simp only[Z8,seval];exact⟨_,bE rfl wh Qa1,rfl⟩
def jw (o:Option (List Int)) (M:bg (ol o).length) (n:Int):KC 193 [ov aH o,aa n] (aa (vM (ol o) n)):=fun _ _=>aX (aU (bR o) (.v _)) (gd o M n) (.v _)
def ru (x:Int):(x == x)=true:=qe
end Go.Ab.Tryz
section
namespace Go.Ab.Tryz
open Classical Go.Proofs Go.Ab
variable {α:Type} {c:α->List AV} {T E Z b:Nat} {v:List Value}
theorem aC2 {T:Nat} (D:To T 26=true) {call:Nat->List AV->Option AV} {ops:Array Oper} {st:St} {U:Nat} {pos:String} {aft:Array Edge} (s x:Operand):cU prog call ops ⟨some 26,.call ⟨.builtin .append,#[s,x],#[T,T]⟩,U,pos,aft,none⟩ st=cT (lH prog st T (st.ev s) (st.ev x)) fun u =>
 some ((st.gV u.1 u.2.1 (some u.2.2.1)).put (some 26) (.vw u.1 u.2.1 0 u.2.2.2)):=U0 s x T 26 (aKg D)
theorem xI:AJ cE 53 102 35 56 Kr:=⟨Ho,gf,ZT,WP,ZM,aNt,jM,ZB⟩
theorem aGf (hm:∀x,∀y∈c x,cZ y) (l:List α):∀y∈l.flatMap c,cZ y:=fun y Y=>by
 obtain⟨x,_,N⟩:=mem_flatMap.1 Y
 exact hm x y N
def dlB (T:Nat):Code:=Wh (fun n=>if n=53 then T else n) id (Tryz.f136.body.getD .skip)
theorem dlG (e:AJ c T E Z b v) {f:Nat} {fn:Func} (hf:prog.funcs[f]? = some fn) (hb:fn.body=some (dlB T)) (hr:fn.results.toList=[.tmp 6]) (R:aZ fn=true) (N:Q7 f=false) (hva:To T 26=true) (hm:∀x,∀y∈c x,cZ y) (L:List α) (i j:Nat) (hij:i<=j) (Y:j<=L.length) (hn:bg L.length) :
 aA prog f [.uniq E Z L.length (L.flatMap c),aa i,aa j]=some (.uniq E Z (L.take i++L.drop j).length ((L.take i++L.drop j).flatMap c)):=by
 rw[wF prog hf hb R _ _ _ _ _ (cF _ _ N)];have a3:(0:Int)<=i/\(i:Int)<=j/\(j:Int)<=L.length/\(L.length:Int)<=L.length:=WF
 have s3:∀(st:St) (lo hi D:Operand),st.heap 0 0=some (.row E Z L.length ((L.flatMap c)))->st.ev lo=aa i->st.ev hi=aa j->st.ev D=aa L.length->tX prog st T (.own 0 0) (some lo) hi D=some (.sl ((j:Int)-i).toNat []):=fun st lo hi D J h2 S h4=>by
  simp only[tX,e.sl,J,h2,S,h4,if_pos a3]
 by_cases ei:(i:Int)=j
 ·have e':i=j:=WF
  subst e'
  rw[take_append_drop];simp only[dlB,Tryz.f136,Option.getD_some,Wh,O0,N9,List.map_toArray,id,E8,seval,fP,gT,fQ,fY,gU,e.sl,s3,ru];exact YZ (P:=prog) (fn:=fn) (s:=0) (g:=0) (.inl rfl) hr (by unfold jP;simp only[E8,seval,fP]) (by simp only[E8,seval,fQ]) (aGf hm L)
 have bB:i<j:=WF
 obtain⟨K,hK⟩:∃K,i+(L.length-j)=K:=⟨_,rfl⟩
 have hKn:K<L.length:=WF
 obtain⟨A,p⟩:∃A,L.take i++L.drop j++L.drop K=A:=⟨_,rfl⟩
 have l2:A.length=L.length:=by rw[<- p];simp;omega
 have r:(L.take i++L.drop j).length=K:=qs
 have t2:A.take K=L.take i++L.drop j:=by rw[<- p,<- r];exact take_left
 have f1:∀(st:St) (hi:Operand),st.heap 0 0=some (.row E Z L.length ((L.flatMap c)))->st.ev hi=aa i->dW prog st T (.own 0 0) none (some hi)=some (.vw 0 0 0 i):=fun st hi u he=>by
  have J:¬((0:Int)=i/\¬((0:Int)=0/\0<L.length)):=WF
  have h2:(0:Int)<=i/\(i:Int)<=L.length:=WF
  simp only[dW,e.sl,u,he,if_neg J,h2,Int.le_refl,and_self,if_true];simp
  intro S h4;rw[h4] at Y;simp at Y
  omega
 obtain⟨X,f2,f2v⟩:∃X,(∀(st:St) (lo:Operand),st.heap 0 0=some (.row E Z L.length ((L.flatMap c)))->st.ev lo=aa j->dW prog st T (.own 0 0) (some lo) none=some X) /\
  (∀st:St,st.heap 0 0=some (.row E Z L.length ((L.flatMap c)))->bA st X=some (L.length-j,((L.drop j).flatMap c))):=by
  by_cases g:j=L.length
  ·refine⟨.sl 0 [],fun st lo u he=>?_,fun st u=>by rw[g];simp[bA]⟩
   have J:(j:Int)=L.length/\¬((j:Int)=0/\0<L.length):=WF
   have h2:(0:Int)<=j/\(j:Int)<=L.length:=WF
   simp only[dW,e.sl,u,he,if_pos J,h2,Int.le_refl,and_self,if_true]
  ·refine⟨.vw 0 0 (j * Z) (L.length-j),fun st lo u he=>?_,fun st u=>?_⟩
   ·have J:¬((j:Int)=L.length/\¬((j:Int)=0/\0<L.length)):=WF
    have h2:(0:Int)<=j/\(j:Int)<=L.length:=WF
    have S:((L.length:Int)-(j:Int)).toNat=L.length-j:=WF
    simp only[dW,e.sl,u,he,if_neg J,h2,S,Int.le_refl,and_self,if_true,Int.toNat_natCast]
   ·have hb:j * Z+(L.length-j) * Z<=(L.flatMap c).length:=yz
    simp only[bA,u,if_pos hb];rw[Dk e.len,take_of_length_le (by rw[mL e.len];simp)]
 have f3:∀st:St,st.heap 0 0=some (.row E Z L.length ((L.flatMap c)))->lH prog st T (.vw 0 0 0 i) X=some (0,0,.row E Z L.length ((A.flatMap c)),K):=fun st u=>by
  have G:(E:Nat)=E/\(Z:Nat)=Z/\(((L.drop j).flatMap c)).length=(L.length-j) * Z/\i+(L.length-j)<=L.length:=⟨rfl,rfl,by rw[mL e.len];simp,WF⟩
  simp only[lH,e.sl,f2v st u,u];rw[if_pos ⟨trivial,trivial,G.2.2⟩,<- Nat.add_mul,hK,wD e.len,Dk e.len,<- flatMap_append,<- flatMap_append,p]
 have f4:∀st:St,st.heap 0 0=some (.row E Z L.length ((A.flatMap c)))->bA st (.vw 0 0 0 K)=some (K,((L.take i++L.drop j).flatMap c)):=fun st u=>by
  have hb:0+K * Z<=((A.flatMap c)).length:=by rw[mL e.len,l2,Nat.zero_add];exact Nat.mul_le_mul_right _ WF
  simp only[bA,u,if_pos hb,drop_zero];rw[wD e.len,t2]
 have f5:∀(st:St) (lo hi:Operand),st.heap 0 0=some (.row E Z L.length ((A.flatMap c)))->st.ev lo=aa K->st.ev hi=aa L.length->dW prog st T (.vw 0 0 0 K) (some lo) (some hi)=some (.vw 0 0 (K * Z) (L.length-K)):=fun st lo hi u J h2=>by
  have S:(0:Int)<=K/\(K:Int)<L.length/\(L.length:Int)<=L.length:=WF
  have h4:((L.length:Int)-(K:Int)).toNat=L.length-K:=WF
  simp only[dW,e.sl,u,J,h2,if_pos S,h4,Int.toNat_natCast]
 obtain⟨W,f6,hZ,hZm⟩:∃W,(∀st:St,st.heap 0 0=some (.row E Z L.length ((A.flatMap c)))->tC prog st T (.vw 0 0 (K * Z) (L.length-K))=some (some (0,0,.row E Z L.length (((L.take i++L.drop j).flatMap c)++W))))/\W.length=(L.length-K) * Z/\∀y∈W,cZ y:=by
  refine⟨(List.range (L.length-K)).flatMap fun _=>v.map AV.v,fun st u=>?_, ?_,fun y G=>?_⟩
  ·have G:(E:Nat)=E/\(Z:Nat)=Z/\K * Z+(L.length-K) * Z<=((A.flatMap c)).length:=⟨rfl,rfl,QaF⟩
   simp only[tC,e.sl,e.ze,u];rw[if_pos ⟨trivial,trivial,G.2.2⟩];have l:((A.flatMap c)).drop (K * Z+(L.length-K) * Z)=[]:=drop_of_length_le QaF
   rw[l,wD e.len,t2,append_nil]
  ·have C:(v.map AV.v).length=Z:=e.zl
   generalize L.length-K=m
   induction m with
   | zero=>simp
   | succ m ih=>rw[range_succ,flatMap_append,length_append,ih,Nat.succ_mul];simp only[flatMap_cons,flatMap_nil,append_nil,C]
  ·obtain⟨_,_,G⟩:=mem_flatMap.1 G
   obtain⟨x,_,rfl⟩:=mem_map.1 G
   exact .v x
 have fl:((((L.take i++L.drop j).flatMap c))++W).length=L.length * Z:=by rw[length_append,mL e.len,r,hZ,<- Nat.add_mul];congr 1;omega
 simp only[dlB,Tryz.f136,Option.getD_some,Wh,O0,N9,List.map_toArray,id,E8,seval,fP,gT,fQ,fY,gU,e.sl,s3,bf ei,aC2 hva,j8,f1,f2,f3,f4,f5,f6];have M:=fun st=>aKh (st:=st) (P:=prog) (fn:=fn) (k:=K) (ee:=E) (sz:=Z) (n:=L.length) (cs:=((L.take i++L.drop j).flatMap c)++W) (e:=.ret) (s:=0) (g:=0) (.inl rfl) hr
 have tk:(((L.take i++L.drop j).flatMap c)++W).take (K * Z)=((L.take i++L.drop j).flatMap c):=by
  rw[<- r,<- mL e.len];exact take_left
 simp only[tk] at M;rw[r];exact M _ (by unfold jP;simp only[E8,seval,fP]) (by simp only[E8,seval,fQ]) WF fl (fun y G=>by
  rcases mem_append.1 G with G|G
  ·exact aGf hm _ y G
  ·exact hZm y G)
theorem aV6 (L:List Request) (i j:Nat) (R:i<=j) (Y:j<=L.length) (M:bg L.length):aA prog 136 [.uniq 102 35 L.length (aC L),aa i,aa j]=some (.uniq 102 35 (L.take i++L.drop j).length (aC (L.take i++L.drop j))):=dlG xI func136 WP rfl aNv rfl rfl SR L i j R Y M
theorem a3v (L:List Block) (i j:Nat) (R:i<=j) (Y:j<=L.length) (M:bg L.length):aA prog 143 [.uniq 66 238 L.length (aK L),aa i,aa j]=some (.uniq 66 238 (L.take i++L.drop j).length (aK (L.take i++L.drop j))):=dlG EH func143 WP rfl aV7 rfl rfl U1 L i j R Y M
end Go.Ab.Tryz
end
namespace Go.Ab.Tryz
open Classical Go.Proofs Go.Ab
variable {s:aF} {v:SV} {t:State} {Q R:Option (List Request)} {st:St} {q' r':AV} {n b:Int} {l:List Request} {x:Request} {α:Type} {k j:Nat}
def aV8 (h:CP s v) (L:List lO) (r:v.L=some L) (a:qX) (V:Option (List Int)) (Y:a.dL=ov aH V) (hV:bg (ol V).length) (X:∀x∈ol V,0<=x/\x<(ol v.L).length) :
 aA prog 134 [bc s,au a]=some (bc (zS (Ec s v a (ol V)) { v with L:=some (pZ (ol v.L) a.target.aG a.root (ol V)).1 } [45,113])):=by
 have hs:=h.sd
 have hol:ol v.L=L:=by rw[r];rfl
 rw[hol] at X ⊢;have hnL:=hs.nL
 rw[hol] at hnL;obtain⟨S,C⟩:∃S,S={ s with dI:={ s.dI with cJ:=.own 11 0 },bH:={ s.bH with early:=rv 11 1 v.E }}:=⟨_,rfl⟩
 have R:zV s v [45,113] 11 0=S:=by rw[(aNs hs 11 0).1,r,C];rfl
 have M:S.dI.cJ=.own 11 0:=wm
 have hR:zR v [45,113]=.row 167 34 L.length (dF L) :: rl 68 67 cN v.E:=by rw[(aNs hs 11 0).2,r];rfl
 rw[cL func134 rfl aV9 rfl];simp only[Z8,seval,Y,LD h (Ro 63 11) (m:=[45,113]),R,hR,NW]
 refine gL (fun m st=>∃(k:Nat) (l:List lO),(st.env 5=.ptr 5 0 0/\st.heap 5 0=some (.cells (aB S))/\st.env 6=.ptr 6 0 0/\st.heap 6 0=some (.cells (oJ ⟨true,a.target.aG,a.root⟩))/\st.env 4=.ptr 4 0 0/\st.heap 4 0=some (.cells (aB eU))/\st.env 19=ov aH V/\st.env 20=aa ((ol V).length)/\st.env 21=aa k/\st.heap 11 0=some (.row 167 34 l.length (dF l)))/\(∀x,v.E=some x->st.heap 11 1=some (.row 68 67 x.length (cN x)))/\(pZ L a.target.aG a.root ((ol V).take k)).1=l/\l.length=L.length/\k<=(ol V).length/\m=(ol V).length-k)
  (fun ex st=>ex=.exit 0/\∃(l:List lO),(st.env 5=.ptr 5 0 0/\st.heap 5 0=some (.cells (aB S))/\st.env 4=.ptr 4 0 0/\st.heap 4 0=some (.cells (aB eU))/\st.heap 11 0=some (.row 167 34 l.length (dF l)))/\(∀x,v.E=some x->st.heap 11 1=some (.row 68 67 x.length (cN x)))/\(pZ L a.target.aG a.root (ol V)).1=l) (ol V).length ?step ?start ?rest
 case step =>
  rintro m st ⟨k,l,D,hH,G,W,hk,hm⟩
  by_cases A:(k:Int)<(ol V).length
  ·have q0:(0:Int)<=k:=WF
   have hw:=wk (k:=k) WF
   have p:=congrArg Prod.fst (ED L a.target.aG a.root (ol V) k WF)
   unfold Sm at p;rw[G] at p;have N:=X _ (lB (z:=(0:Int)) q0 A)
   obtain⟨x,ex⟩:∃x,gx (0:Int) (ol V) (k:Int)=x:=⟨_,rfl⟩
   rw[ex] at N p;have x0:0<=x:=N.1
   have x1:x<(l.length:Int):=by rw[W];exact N.2
   have x2:x.toNat<l.length:=WF
   have x3:x.toNat * 34+34<=l.length * 34:=WF
   have ld:=RC (T:=167) (n:=l.length) (k:=34) x0 x1 aFk ZB ZB
   by_cases J:(gx nP l x).has=true
   ·by_cases h2:(gx nP l x).aG<a.target.aG
    ·rw[if_pos (.inr h2)] at p;apply oN ((ol V).length-(k+1))
     ·simp only[Z8,seval,D,M,A,q0,ex,x0,x1,x2,x3,ld,J,h2,Sn _ _ _ x2,hw];rfl
     ·exact⟨k+1,_,yk,fun j h=>ml,p,oh,WF,rfl⟩
    ·rw[if_neg (by simp only[J,h2,Bool.true_eq_false,or_self,not_false_eq_true])] at p
     apply oN ((ol V).length-(k+1))
     ·simp only[Z8,seval,D,M,A,q0,ex,x0,x1,x2,x3,ld,J,h2,hw];rfl
     ·exact⟨k+1,l,XC,fun j h=>ml,by rw[p,G],W,WF,rfl⟩
   ·have u:(gx nP l x).has=false:=ja
    rw[if_pos (.inl u)] at p;apply oN ((ol V).length-(k+1))
    ·simp only[Z8,seval,D,M,A,q0,ex,x0,x1,x2,x3,ld,u,Sn _ _ _ x2,hw];rfl
    ·exact⟨k+1,_,yk,fun j h=>ml,p,oh,WF,rfl⟩
  ·have Gt:k=(ol V).length:=WF
   rw[Gt,take_length] at G;apply oT (.exit 0)
   ·simp only[Z8,seval,D,A];rfl
   ·exact⟨rfl,l,XC,fun j h=>ml,G⟩
 case start=>exact⟨0,L,by simp only[E8,seval,NW]<;>and_intros<;>rfl,fun x N=>by simp only[E8,seval,NW,N]<;>rfl,rfl,rfl,WF,WF⟩
 case rest =>
  rintro ex st ⟨rfl,l,D,hH,rfl⟩
  simp only[Z8,seval,D];have fl:=hs.fl
  refine Bw (Ws rfl) (.inl rfl) rfl (x:=bc S) zz ?_ ?_
  ·rw[C];show ((aB (Rn s s.cFg.fL (.own 11 0) s.dI.dM (rv 11 1 v.E) s.bH.bL s.tree.nodes s.tables)).flatMap gP).Nodup
   rw[qU,dP fl.1,dP fl.2.2.1,dP fl.2.2.2.2.1,dP fl.2.2.2.2.2.1,dP fl.2.2.2.2.2.2,xH];cases v.E<;>simp[gP]
  ·rw[C];refine (Bc (Hp s (l:=.own 11 0) (e:=rv 11 1 v.E) (if_pos fl.1) (lC (e:=167) (sz:=34) (d:=11) (k:=0) (L:=some (pZ L a.target.aG a.root (ol V)).1) (fun l W=>by cases W;simp only[E8,seval,D]) fun l _=>mR l) (if_pos fl.2.2.1) (lC (e:=68) (sz:=67) (fun l W=>by simp only[E8,seval,hH l W]) fun l W=>uL l fun y m=>(hs.eV y (by rw[W];exact m)).fl) (if_pos fl.2.2.2.2.1) (if_pos fl.2.2.2.2.2.1) (if_pos fl.2.2.2.2.2.2))).trans ?_
   simp only[zS,pk,Ec,Rn,List.contains_cons,contains_nil,Nat.reduceBEq,Bool.or_false,Bool.or_true,Bool.false_or,Bool.true_or,cond_false,cond_true,<- hs.fL,<- hs.dM,<- hs.bL,<- hs.tables,Pa hs]
def c30 (h:TD t v Q R) (G:CP t.store v):aA prog 30 [bd t]=some (bd ({ t with fX:=uo 102 35 aC Q,iB:=uo 102 35 aC R })):=by
 have nQ:bg (ol Q).length:=dm
 have nR:bg (ol R).length:=by have:=h.nR;omega
 have hz:=ZY G.sd 5 0
 have hf:=h.fl
 rw[cL func30 rfl a3x rfl];simp only[Z8,seval,LD G (Ro 63 5) (m:=[]),hz.1,hz.2,Bl,h.Nx,h.ret,k65 Q nQ,k65 R nR,NW]
 refine Bw rfl (.inl rfl) rfl (x:=bd ({ t with fX:=rv 9 0 Q,iB:=rv 13 0 R })) (by simp only[bC,Z8,seval,NW]) ?_ (Bc ?_)
 ·show ((aE _).flatMap gP).Nodup
  simp only[aE,flatMap_append,flatMap_cons,flatMap_nil,append_nil,mM (show ∀c∈aB t.store,Flat c from zf),mM (eA _),mM (jR _),mM (gG _),xH]
  cases Q<;>cases R<;>simp
 ·have g:∀(L:Option (List Request)) (st:St) (d:Nat),(∀l,L=some l->st.heap d 0=some (.row 102 35 l.length (aC l)))->FM st [rv d 0 L]=some [uo 102 35 aC L]:=fun L st d g=>tU (lC g fun l _=>dG l)
  simp only[aE,FN,sK (show ∀c∈aB t.store,Flat c from zf),sK (eA _),sK (jR _),sK (gG _),cC]
  rw[g,cC,g,cC]
  ·rfl
  all_goals
   intro l W;simp only[E8,seval,NW,W,iC]<;>rfl
def aO8 (h:TD t v Q R) (G:CP t.store v) (l:List Nat) (st:St) (d:Nat) {b1 b2:Bool} (A:l.contains 150=b1:=by rfl) (e2:l.contains 151=b2:=by rfl):aO (Oo l (aA prog)) 30 [bd t] st (some d) =
 some { dst:=some d,val:=bd ({ t with fX:=pv b1 d (st.aJ d) aC Q,iB:=pv b2 d (st.aJ d+(pr b1 102 35 aC Q).length) aC R }),new:=Sl d (pr b1 102 35 aC Q++pr b2 102 35 aC R)}:=by
 have hS:∀c∈aB t.store,Flat c:=zf
 have C:Flat (ov aC Q):=fS Q
 have N:Flat (ov aC R):=fS R
 have e:Oo l (aA prog) 30 [bd t]=some (bd ({ t with fX:=pk b1 102 35 aC Q,iB:=pk b2 102 35 aC R })):=by
  have u:XL (aE { t with fX:=uo 102 35 aC Q,iB:=uo 102 35 aC R }):=by
   have g {L:Option (List Request)}:XL [uo 102 35 aC L]:=.one (ZX (dG _))
   exact (XL.flat hS).app (g.app (g.app ((XL.flat (eA _)).app ((XL.flat (jR _)).app ((XL.flat (gG _)).app ((XL.flat (jR _)).app (XL.flat (jR _))))))))
  unfold Oo;rw[if_pos (bZ h.flat),c30 h G,cC];refine (if_pos u).trans ?_
  simp only[aE,ZV,sM hS,sM (eA _),sM (jR _),sM (gG _),ZW,length_append,length_cons,length_nil,FR,Nat.reduceAdd,A,e2,aO4]<;>rfl
 have J:∀c,kH (pG d) c (aE { t with fX:=pk b1 102 35 aC Q,iB:=pk b2 102 35 aC R })=(aE { t with fX:=pv b1 d c aC Q,iB:=pv b2 d (c+(pr b1 102 35 aC Q).length) aC R },pr b1 102 35 aC Q++pr b2 102 35 aC R):=fun c=>by
  simp only[aE,FL,pT d _ hS,Ak C,Ak N,pT d _ (eA _),pT d _ (jR _),pT d _ (gG _),nil_append,length_nil,Nat.add_zero,append_nil]
 rw[SO (bZ h.flat) e ?_,J];rw[J];by_cases M:pr b1 102 35 aC Q++pr b2 102 35 aC R=[]
 ·rw[List.append_eq_nil_iff] at M;obtain⟨a1,a2,a3,a4,a5,D,r⟩:=G.sd.fl
  exact .inl ((qM _).2 ⟨a1,a2,a3,a4,a5,D,r,Al C M.1,Al N M.2⟩)
 ·exact .inr M
def a3y (a:uM) (n:Int):aA prog 221 [.agg (kD a),ac n]=some (ae (decide (a.tag=n))):=by
 rw[cL func221 rfl aWa rfl];refine eM ?_
 by_cases h:a.tag=n
 ·simp only[Z8,seval,bt h];exact⟨_,bE rfl,by rw[decide_eq_true h]⟩
 ·simp only[Z8,seval,bf h];exact⟨_,bE rfl,by rw[decide_eq_false h]⟩
def a3z (a:uM) (n:Int):KC 221 [.agg (kD a),ac n] (ae (decide (a.tag=n))):=fun _ _=>aX (aU (.agg _ (Hq a)) (.v _)) (a3y a n) (.v _)
def aKj (w:fM):Flat (.ip (cK w) 0):=.ip _ _ (fJ w)
def a3A (r:Request) (w:fM):aA prog 220 [ay r,.ip (cK w) 0]=some (ae (decide (r.tagged.tag=w.tagged.tag))):=by
 rw[cL func220 rfl aWb rfl];refine eM ?_
 simp only[Z8,seval,a3z];exact⟨_,bE rfl,rfl⟩
def aWc (r:Request) (w:fM) (st:St) (d:Option Nat):aO (aA prog) 220 ([ay r]++[.ip (cK w) 0]) st d=some { dst:=d,val:=ae (decide (r.tagged.tag=w.tagged.tag))}:=aX (aU (.agg _ (eD r)) (aKj w)) (a3A r w) (.v _)
def a3B (o:Option (List Request)) (hn:bg (ol o).length) (w:fM):aA prog 205 [ov aC o,.rL 220 [.ip (cK w) 0]]=some (aa (qP (Je (ol o) w.tagged.tag) (ol o).length)):=by
 rw[cL func205 rfl aNw wa]
 refine eM ?_
 simp only[Z8,seval];refine bP (fun m st=>∃k:Nat,(st.env 0=ov aC o/\st.env 1=.rL 220 [.ip (cK w) 0]/\st.env 7=aa ((ol o).length)/\st.env 8=aa k)/\(∀j:Nat,j<k->¬Je (ol o) w.tagged.tag j)/\k<=(ol o).length/\m=(ol o).length-k)
  (fun e st=>(e=.ret/\∃k:Nat,k<(ol o).length/\Je (ol o) w.tagged.tag k/\(∀j:Nat,j<k->¬Je (ol o) w.tagged.tag j)/\st.env 4=aa k)\/(e=.exit 0/\∀j:Nat,j<(ol o).length->¬Je (ol o) w.tagged.tag j)) (ol o).length ?step ?start ?rest
 case step =>
  rintro m st ⟨k,D,Y,R,hm⟩
  by_cases A:(k:Int)<(ol o).length
  ·have q0:(0:Int)<=k:=WF
   have hw:=wk (k:=k) WF
   by_cases X:Je (ol o) w.tagged.tag k
   ·have l:decide ((gx cS (ol o) (k:Int)).tagged.tag=w.tagged.tag)=true:=decide_eq_true X
    apply oT (.ret)
    ·simp only[Z8,seval,D,A,q0,aWc,l];rfl
    ·exact .inl ⟨rfl,k,WF,X,Y,qb⟩
   ·have l:decide ((gx cS (ol o) (k:Int)).tagged.tag=w.tagged.tag)=false:=decide_eq_false X
    apply oN ((ol o).length-(k+1))
    ·simp only[Z8,seval,D,A,q0,aWc,l,hw];rfl
    ·exact⟨k+1,XC,fun j h=>(Nat.lt_succ_iff_lt_or_eq.1 h).elim (Y j) fun e=>by subst e;exact X,WF,rfl⟩
  ·apply oT (.exit 0)
   ·simp only[Z8,seval,D,A];rfl
   ·exact .inr ⟨rfl,fun j h=>Y j WF⟩
 case start=>exact⟨0,Wl,fun j h=>WF,WF,WF⟩
 case rest =>
  rintro e st (⟨rfl,k,R,u,Y,h⟩|⟨rfl,Y⟩)
  ·have C:qP (Je (ol o) w.tagged.tag) (ol o).length=k:=Ad u Y _ R
   simp only[Z8,seval];exact⟨_,bE rfl qm vd,wm⟩
  ·have C:qP (Je (ol o) w.tagged.tag) (ol o).length=-1:=pN _ Y
   simp only[Z8,seval];exact⟨_,bE rfl,wm⟩
def PF:Flat (bd iS):=uv
def aNx (G:CP t.store v) {q r:AV} (J:cO st q=some q') (h2:cO st r=some r'):Rp st (aE (pD t q r n))=some (aE (pD t q' r' n)):=by
 have M:∀c∈aB t.store,Flat c:=zf
 simp only[pD,aE,sP,iU M,uD,J,h2,iU (eA _),iU (jR _),iU (gG _),lS,cC]
def Kt (G:CP t.store v) {q r:AV} (J:cO st q=some q') (h2:cO st r=some r'):eE st (bd (pD t q r n))=some (bd (pD t q' r' n)):=by rw[dC,aNx G J h2];rfl
def TB (b:Int) (o:Option (List Request)):Prop:=∀y∈ol o,0<=y.tries/\y.tries<=b
def TB.snoc (h:TB b (some l)) (N:0<=x.tries/\x.tries<=b):TB b (some (l++[x])):=fun y m=>(mem_append.1 (show y∈l++[x] from m)).elim (h y) fun e=>by rw[mem_singleton.1 e];exact N
theorem TB.one (N:0<=x.tries/\x.tries<=b):TB b (some [x]):=fun y m=>by rw[mem_singleton.1 (show y∈[x] from m)];exact N
theorem TB.sub {o:Option (List Request)} (h:TB b o) (hs:∀y∈l,y∈ol o):TB b (some l):=fun y m=>h y (hs y m)
def a3C (h:TD t v Q R) (G:CP t.store v) (w:fM):∃x,aA prog 153 [bd t,am w]=some x /\
 (x=.cY [ay cS,bd iS,aa 23]\/∃r q,(ol q).length<=(ol Q).length/\r∈ol Q/\(∀b,TB b Q->TB b q)/\x=.cY [ay r,bd (pD t (ov aC q) (ov aC R) t.cI),aa 0]):=by
 have M:bg (ol Q).length:=dm
 have J:=PF
 have D:∀(args:List AV) (st:St) (d:Option Nat),aO (aA prog) 205 args st d=oK (aA prog) 205 (bM (args.map (eE st))) (decide (∀x∈args,Flat x)) st d:=fun args st d=>dZ _ _ _ _ _
 have C:∀(fl:Bool) (st:St) (d:Option Nat),oK (aA prog) 205 (some [ov aC Q,.rL 220 [.ip (cK w) 0]]) fl st d=some { dst:=d,val:=aa (qP (Je (ol Q) w.tagged.tag) (ol Q).length)}:=fun fl st d=>zP (a3B Q M w)
 have eV:∀(st:St) (o:Nat),Fx st (some (.cells (cK w))) o=some (.ip (cK w) o):=fun st o=>By st (fJ w) o
 rw[cG func153 rfl aWd WP rfl]
 rcases lA (Je (ol Q) w.tagged.tag) (ol Q).length with ⟨e,Y⟩|⟨k,hk,hh,Y,e⟩
 ·rw[e] at C;simp only[ZG,seval,aNy,h.Nx,D,kM,eV,C];exact⟨_,by apply fF;rfl;all_goals simp only[aI,bC,Z8,seval,J]<;>rfl,.inl rfl⟩
 ·rw[e] at C;have q0:¬(k:Int)<0:=WF
  have S:(0:Int)<=k:=WF
  have N:(k:Int)<((ol Q).length:Int):=WF
  have hw:=wk (k:=k) WF
  cases Q with
  | none=>simp[ol] at hk
  | some L =>
    rw[dK] at *
    have l:=aV6 L k (k+1) WF WF M
    have A:∀s g d c,B3 (aA prog) 136 [aa k,aa ((k+1:Nat):Int)] s g d c (some (.row 102 35 L.length (aC L)))=_:=fun s g d c=>Sx (dG L) (aU (.v _) (.v _)) l
    have X:∀st,aO (Oo (Ro 30 18) (aA prog)) 30 [bd t] st (some 18)=_:=fun st=>aO8 h G (Ro 30 18) (b1:=true) (b2:=false) st 18
    simp only[ZG,seval,aNy,h.Nx,D,kM,eV,C,q0,S,N,hw,X,pv,pr,iC,iL,cond_true,cond_false,append_nil,NW,A,dK,yJ,yI];refine⟨_,fF rfl (x1:=ay (gx cS L (k:Int))) ?a1 (x2:=bd (pD t (.own 24 0) (ov aC R) t.cI)) ?a2 (x3:=aa 0) ?a3 (cV (.agg _ (eD _))) (Kt G (lR (L:=L.take k++L.drop (k+1)) ?a4) (bY (fS R))) (cV (.v _)),.inr ⟨_,some (L.take k++L.drop (k+1)),by rw[dK,length_append,length_take,length_drop];omega,lB S N,fun b h=>h.sub fun y m=>(mem_append.1 m).elim mem_of_mem_take mem_of_mem_drop,rfl⟩⟩
    case a1=>simp only[bC,Z8,seval,NW]
    case a2=>simp only[bC,Z8,seval,NW,pD]
    case a3=>simp only[bC,E8,seval,NW]
    case a4=>simp only[E8,seval,NW]
def Ku:AJ cH 50 74 34 64 Qd:=⟨SS,aO9,rz,WP,aWe,aWf,lY,ZB⟩
def aGg (o:Option (List Table)) (M:bg (ol o).length) (f:Nat) (G:List AV) (p:Table->Bool) (kf:∀x∈ol o,∀(st:St) (d:Option Nat),aO (aA prog) f ([ax x]++G) st d=some { dst:=d,val:=ae (p x)}):aA prog 235 [ov bG o,.rL f G]=some (aa (qP (fun k=>p (gx fW (ol o) k)=true) (ol o).length)):=ixF (U:=259) Ku func235 WP rfl aWg rfl rfl fW o M f G p kf
def aWh (o:Option (List Request)) (M:bg (ol o).length) (f:Nat) (G:List AV) (p:Request->Bool) (kf:∀x∈ol o,∀(st:St) (d:Option Nat),aO (aA prog) f ([ay x]++G) st d=some { dst:=d,val:=ae (p x)}):aA prog 205 [ov aC o,.rL f G]=some (aa (qP (fun k=>p (gx cS (ol o) k)=true) (ol o).length)):=ixF (U:=212) xI func205 WP rfl aNw rfl rfl cS o M f G p kf
def aBv (w:dH):Flat (.ip (bI w) 0):=.ip _ _ (cM w)
def a3D (x:Table) (J:dH) (fx:Flat (ax x)):aA prog 272 [ax x,.ip (bI J) 0]=some (ae (decide (x.ck=J))):=by
 rw[cL func272 rfl aWi rfl];refine eM ?_
 by_cases h:x.ck=J
 ·simp only[Z8,seval,h,decide_true];exact⟨_,bE rfl,rfl⟩
 ·simp only[Z8,seval,h,decide_false];exact⟨_,bE rfl,rfl⟩
def a3E (x:Table) (J:dH):aA prog 198 [ax x,.ip (bI J) 0]=some (ae (decide (x.ck.aG<J.aG))):=by
 rw[cL func198 rfl aWj rfl];refine eM ?_
 by_cases h:x.ck.aG<J.aG
 ·simp only[Z8,seval,h,decide_true];exact⟨_,bE rfl,rfl⟩
 ·simp only[Z8,seval,h,decide_false];exact⟨_,bE rfl,rfl⟩
def a3F (x:Block) (n:Int):aA prog 202 [ah x,.ip (qY n) 0]=some (ae (decide (x.slot<=n))):=by
 rw[cL func202 rfl aWk rfl];refine eM ?_
 by_cases h:x.slot<=n
 ·simp only[Z8,seval,h,decide_true];exact⟨_,bE rfl,rfl⟩
 ·simp only[Z8,seval,h,decide_false];exact⟨_,bE rfl,rfl⟩
def a3G (o:Option (List Table)) (M:bg (ol o).length) (hB:∀y∈ol o,Flat y.fL) (J:dH):aA prog 271 [ov bG o,.rL 272 [.ip (bI J) 0]]=some (ae (decide (0<=QV (ol o) J))):=by
 have h:=aGg o M 272 [.ip (bI J) 0] (fun x=>decide (x.ck=J)) (fun x N st d=>aX (aU ((iQ _).2 (hB x N)) (aBv J)) (a3D x J ((iQ _).2 (hB x N))) (.v _))
 have e:qP (fun k=>decide ((gx fW (ol o) k).ck=J)=true) (ol o).length=QV (ol o) J:=by
  show qP _ _=qP _ _;exact congrArg (fun p=>qP p _) (funext fun k=>decide_eq_true_eq)
 rw[e] at h;have C:=mI o hB
 have A:Flat (.rL 272 [.ip (bI J) 0]):=.rL _ _ (bZ (aBv J))
 have l:=kx h (aU C A) (.v _)
 rw[cL func271 rfl aWl wa]
 refine eM ?_
 by_cases g:0<=QV (ol o) J
 ·simp only[Z8,seval,l,g,decide_true];exact⟨_,bE rfl,rfl⟩
 ·simp only[Z8,seval,l,g,decide_false];exact⟨_,bE rfl,rfl⟩
def rE (s:aF) (v:SV) (c:dH):Prop:=0<=aD v.ns c.root/\(nd v.ns (aD v.ns c.root)).status≠2/\(sF s c.aG).2=0/\(nd v.ns (aD v.ns c.root)).block.slot<=(sF s c.aG).1
def T6 (v:SV) (c:dH):Int:=if 0<=aD v.ns c.root/\(nd v.ns (aD v.ns c.root)).status≠2 then aD v.ns c.root else -1
def a3H (hs:SD s v) (c:dH) (G:Rg c.aG):aA prog 270 [bc s,ag c]=some (.cY [aa (T6 v c),ae (decide (rE s v c))]):=by
 have W:∀(st:St) (d:Option Nat),aO (aA prog) 200 [ac c.aG,ac s.cFg.iH] st d=some { dst:=d,val:=.cY [ac ((sF s c.aG).1),aa ((sF s c.aG).2)]}:=fun st d=>eu G st d
 have fr:=cB v.ns c.root
 rw[cL func270 rfl aWm rfl];refine eM ?_
 by_cases g1:aD v.ns c.root<0
 ·have A:T6 v c=-1:=by unfold T6;rw[if_neg (fun h=>WF)]
  have M:¬rE s v c:=fun h=>by have:=h.1;omega
  simp only[Z8,seval,hs.tree,lX _ _ hs.nn,g1];exact⟨_,bT rfl rfl rfl Wl Wl,mr⟩
 have q0:0<=aD v.ns c.root:=WF
 by_cases g2:(nd v.ns (aD v.ns c.root)).status=2
 ·have A:T6 v c=-1:=by unfold T6;rw[if_neg (fun h=>h.2 g2)]
  have M:¬rE s v c:=fun h=>h.2.1 g2
  simp only[Z8,seval,hs.tree,lX _ _ hs.nn,g1,q0,fr.2,bt g2];exact⟨_,bT rfl rfl rfl Wl Wl,mr⟩
 have A:T6 v c=aD v.ns c.root:=by unfold T6;rw[if_pos ⟨q0,g2⟩]
 by_cases g3:(sF s c.aG).2=0
 case neg =>
  have M:¬rE s v c:=fun h=>g3 h.2.2.1
  simp only[Z8,seval,hs.tree,lX _ _ hs.nn,g1,q0,fr.2,bf g2,W,bW,bf g3];exact⟨_,bT rfl rfl rfl Wl Wl,mr⟩
 by_cases g4:(nd v.ns (aD v.ns c.root)).block.slot<=(sF s c.aG).1
 ·have M:rE s v c:=⟨q0,g2,g3,g4⟩
  simp only[Z8,seval,hs.tree,lX _ _ hs.nn,g1,q0,fr.2,bf g2,W,bW,bt g3,g4];exact⟨_,bT rfl rfl rfl Wl Wl,by rw[A,decide_eq_true M]⟩
 ·have M:¬rE s v c:=fun h=>g4 h.2.2.2
  simp only[Z8,seval,hs.tree,lX _ _ hs.nn,g1,q0,fr.2,bf g2,W,bW,bt g3,g4];exact⟨_,bT rfl rfl rfl Wl Wl,mr⟩
def Td (hs:SD s v) (c:dH) (G:Rg c.aG):KC 270 [bc s,ag c] (.cY [aa (T6 v c),ae (decide (rE s v c))]):=fun _ _=>aX (aU hs.flat (.agg _ (cM c))) (a3H hs c G) (.cY _ (aU (.v _) (.v _)))
def a3I (hs:SD s v):aA prog 131 [bc s]=some (.agg (eI (tP v.ns))):=by
 have hn:=hs.nn
 rw[cL func131 rfl aWn rfl];refine eM ?_
 simp only[Z8,seval,hs.tree];refine bP (fun m st=>∃(k:Nat) (b:Bool) (x y:dH),(st.env 2=.ptr 2 0 0/\st.heap 2 0=some (.cells (eI Ha))/\st.env 3=.ptr 3 0 0/\st.heap 3 0=some (.cells (eI ⟨x,y⟩))/\st.env 4=ae b/\st.env 9=.sl v.ns.length (bS v.ns)/\st.env 10=aa v.ns.length/\st.env 11=aa k)/\P8 (v.ns.take k)=(b,x,y)/\k<=v.ns.length/\m=v.ns.length-k)
  (fun e st=>e=.exit 0/\∃(x y:dH),(st.env 2=.ptr 2 0 0/\st.heap 2 0=some (.cells (eI Ha))/\st.env 3=.ptr 3 0 0/\st.heap 3 0=some (.cells (eI ⟨x,y⟩)))/\tP v.ns=⟨x,y⟩) v.ns.length ?step ?start ?rest
 case step =>
  rintro m st ⟨k,b,x,y,D,hp,hk,hm⟩
  by_cases A:(k:Int)<v.ns.length
  ·have q0:(0:Int)<=k:=WF
   have hw:=wk (k:=k) WF
   have p:=OL v.ns k WF
   rw[hp] at p;unfold QZ at p;by_cases J:(nd v.ns k).status=2
   ·rw[if_pos J] at p;apply oN (v.ns.length-(k+1))
    ·simp only[Z8,seval,D,A,q0,bt J,hw];rfl
    ·exact⟨k+1,b,x,y,XC,p,WF,rfl⟩
   rw[if_neg J] at p;cases b
   ·simp only[true_or,if_true] at p;apply oN (v.ns.length-(k+1))
    ·simp only[Z8,seval,D,A,q0,bf J,hw];rfl
    ·exact⟨k+1,true,_,_,qc,p,WF,rfl⟩
   ·simp only[Bool.true_eq_false,false_or] at p;by_cases h2:x.aG<(nd v.ns k).block.dA.pj.aG
    ·rw[if_pos h2] at p;by_cases S:y.aG<(nd v.ns k).block.dA.pf.aG
     ·rw[if_pos S] at p;apply oN (v.ns.length-(k+1))
      ·simp only[Z8,seval,D,A,q0,bf J,h2,S,hw];rfl
      ·exact⟨k+1,true,_,_,qc,p,WF,rfl⟩
     ·rw[if_neg S] at p;apply oN (v.ns.length-(k+1))
      ·simp only[Z8,seval,D,A,q0,bf J,h2,S,hw];rfl
      ·exact⟨k+1,true,_,_,qc,p,WF,rfl⟩
    ·rw[if_neg h2] at p;by_cases S:y.aG<(nd v.ns k).block.dA.pf.aG
     ·rw[if_pos S] at p;apply oN (v.ns.length-(k+1))
      ·simp only[Z8,seval,D,A,q0,bf J,h2,S,hw];rfl
      ·exact⟨k+1,true,_,_,qc,p,WF,rfl⟩
     ·rw[if_neg S] at p;apply oN (v.ns.length-(k+1))
      ·simp only[Z8,seval,D,A,q0,bf J,h2,S,hw];rfl
      ·exact⟨k+1,true,_,_,qc,p,WF,rfl⟩
  ·have G:k=v.ns.length:=WF
   rw[G,take_length] at hp;apply oT (.exit 0)
   ·simp only[Z8,seval,D,A];rfl
   ·exact⟨rfl,x,y,XC,by unfold tP;rw[hp]⟩
 case start=>exact⟨0,false,dO,dO,Wl,rfl,WF,WF⟩
 case rest =>
  rintro e st ⟨rfl,x,y,D,hp⟩
  simp only[Z8,seval,D];exact⟨_,iI rfl qc xk QbT,by rw[hp]⟩
def a3J (hs:SD s v):KC 131 [bc s] (.agg (eI (tP v.ns))):=fun _ _=>aX (bZ hs.flat) (a3I hs) (.agg _ (Ac _))
def okC (s:aF) (v:SV) (J F:dH):Prop:=rE s v F/\rE s v J/\lN v.ns (aD v.ns F.root) (aD v.ns J.root)=true/\F.aG<=J.aG/\J.aG<=pY s s.now/\0<=QV (ol v.T) J
def aBw (h:1<=s.cFg.iH/\s.cFg.iH<=64) (N:Rg s.now) {J F:dH} (p:Rg J.aG) (u:Rg F.aG):okC s v J F↔¬iR s v J F:=by
 have key:∀c:dH,Rg c.aG->c.aG<=pY s s.now->(sF s c.aG).2=0:=fun c G hle=>by rw[(aF9 h G.1 hle N).1]
 unfold okC rE iR Pq;constructor
 ·rintro⟨⟨f1,f2,f3,f4⟩,⟨j1,D,j3,l⟩,a,b,c,d⟩ hb
  rcases hb with h|h|h|h|h|h|h|h|h|h
  ·omega
  ·omega
  ·exact D h
  ·exact f2 h
  ·exact h (.inr l)
  ·exact h (.inr f4)
  ·rw[h] at a;cases a
  ·omega
  ·omega
  ·omega
 ·intro hb;simp only[not_or,Classical.not_not,Int.not_lt,Bool.not_eq_false] at hb;obtain⟨h1,h2,S,X,C,r,h7,h8,R,A⟩:=hb
  have W:=key J p R
  have M:=key F u WF
  exact⟨⟨h2,X,M,Classical.byContradiction fun e=>r ⟨M,e⟩⟩,⟨h1,S,W,Classical.byContradiction fun e=>C ⟨W,e⟩⟩,h7,h8,R,A⟩
def aGi {c:dH} (h:rE s v c):T6 v c=aD v.ns c.root:=by unfold T6;rw[if_pos ⟨h.1,h.2.1⟩]
def a3L (hs:SD s v) (hu:eK v.ns) (hp:1<=s.cFg.iH/\s.cFg.iH<=64) (N:Rg s.now) (hj:Rg s.aL.dX.aG) (CF:Rg s.aL.fin.aG) (c1 c2:dH) (h1:Rg c1.aG) (h2:Rg c2.aG):aA prog 196 [bc s,ag c1,ag c2]=some (DZ s v c1 c2):=by
 have hf:=hs.flat
 have hB:=fun y Y=>(hs.tB y Y).fl
 have fo:=mI v.T hB
 have C:Rg (yZ s c1).aG:=by unfold yZ;split<;>assumption
 have S:Rg (sX s c2).aG:=by unfold sX;split<;>assumption
 have U2:∀(args:List AV) (st:St) (d:Option Nat),aO (aA prog) 271 args st d=oK (aA prog) 271 (bM (args.map (eE st))) (decide (∀x∈args,Flat x)) st d:=fun args st d=>dZ _ _ _ _ _
 have U3:∀(J:dH) (fl:Bool) (st:St) (d:Option Nat),oK (aA prog) 271 (some [ov bG v.T,.rL 272 [.ip (bI J) 0]]) fl st d=some { dst:=d,val:=ae (decide (0<=QV (ol v.T) J))}:=fun J fl st d=>Ee (a3G v.T hs.nT hB J)
 have eV:∀(J:dH) (st:St) (o:Nat),Fx st (some (.cells (bI J))) o=some (.ip (bI J) o):=fun J st o=>By st (cM J) o
 have m:∀st:St,eE st (ov bG v.T)=some (ov bG v.T):=fun st=>cV fo
 have FU:=fun x=>Sq (s:=s) hp x
 rw[cG func196 rfl aWo WP rfl]
 refine eM ?_
 obtain⟨J,X⟩:∃J,yZ s c1=J:=⟨_,rfl⟩
 obtain⟨F,R⟩:∃F,sX s c2=F:=⟨_,rfl⟩
 have aPa:=aBw (v:=v) hp N C S
 unfold DZ;rw[X,R] at aPa ⊢;rw[X] at C;rw[R] at S;have nb:¬okC s v J F->iR s v J F:=fun h=>Classical.byContradiction fun e=>h (aPa.2 e)
 simp only[ZG,seval,Te,mF,mG];refine Sk (fun a=>a.1=.normal/\a.2.env 3=.ptr 3 0 0/\a.2.heap 3 0=some (.cells (aB s))/\a.2.env 5=.ptr 5 0 0/\a.2.heap 5 0=some (.cells (bI c2))/\a.2.env 6=.ptr 6 0 0/\a.2.heap 6 0=some (.cells (bI J))/\a.2.env 7=.ptr 7 0 0/\a.2.heap 7 0=some (.cells (bI s.aL.fin))) ?m1 ?r1
 case m1 =>
  unfold yZ at X;by_cases l:s.aL.dX.aG<c1.aG
  ·rw[if_pos l] at X;simp only[l,decide_true,if_true];exact⟨_,rfl,rfl,nu⟩
  ·rw[if_neg l] at X;simp only[l,decide_false,Bool.false_eq_true,if_false];exact⟨_,rfl,rfl,nu⟩
 case r1 =>
  rintro⟨_,st⟩ ⟨rfl,D⟩
  dsimp only at D
  simp only[ZG,seval,Te,mF,mG,D];refine Sk (fun a=>a.1=.normal/\a.2.env 3=.ptr 3 0 0/\a.2.heap 3 0=some (.cells (aB s))/\a.2.env 6=.ptr 6 0 0/\a.2.heap 6 0=some (.cells (bI J))/\a.2.env 7=.ptr 7 0 0/\a.2.heap 7 0=some (.cells (bI F))) ?m2 ?r2
  case m2 =>
   unfold sX at R;by_cases a2:s.aL.fin.aG<c2.aG
   ·rw[if_pos a2] at R;simp only[a2,decide_true,if_true];exact⟨_,rfl,rfl,mq⟩
   ·rw[if_neg a2] at R;simp only[a2,decide_false,Bool.false_eq_true,if_false];exact⟨_,rfl,rfl,mq⟩
  case r2 =>
   rintro⟨_,st⟩ ⟨rfl,p⟩
   dsimp only at p
   by_cases g1:¬rE s v F
   ·simp only[ZG,seval,Te,mF,mG,p,Td hs _ C,Td hs _ S,hs.tree,hs.tables,U2,m,kM,eV,U3,bW,FU,j9 _ hu,decide_true,decide_false,g1];exact⟨_,wl,qj⟩
   replace g1:=Classical.not_not.1 g1
   by_cases g2:¬rE s v J
   ·simp only[ZG,seval,Te,mF,mG,p,Td hs _ C,Td hs _ S,hs.tree,hs.tables,U2,m,kM,eV,U3,bW,FU,j9 _ hu,decide_true,decide_false,g1,g2];exact⟨_,wl,qj⟩
   replace g2:=Classical.not_not.1 g2
   have A:=aGi g1
   have M:=aGi g2
   by_cases g3:lN v.ns (aD v.ns F.root) (aD v.ns J.root)=false
   ·simp only[ZG,seval,Te,mF,mG,p,Td hs _ C,Td hs _ S,hs.tree,hs.tables,U2,m,kM,eV,U3,bW,FU,j9 _ hu,decide_true,decide_false,g1,g2,A,M,g3];exact⟨_,wl,qj⟩
   replace g3:=(by simpa using g3:lN v.ns _ _=true)
   by_cases g4:J.aG<F.aG
   ·simp only[ZG,seval,Te,mF,mG,p,Td hs _ C,Td hs _ S,hs.tree,hs.tables,U2,m,kM,eV,U3,bW,FU,j9 _ hu,decide_true,decide_false,g1,g2,A,M,g3,g3,g4];exact⟨_,wl,qj⟩
   by_cases g5:pY s s.now<J.aG
   ·simp only[ZG,seval,Te,mF,mG,p,Td hs _ C,Td hs _ S,hs.tree,hs.tables,U2,m,kM,eV,U3,bW,FU,j9 _ hu,decide_true,decide_false,g1,g2,A,M,g3,g3,g4,g5];exact⟨_,wl,qj⟩
   by_cases g6:¬0<=QV (ol v.T) J
   ·simp only[ZG,seval,Te,mF,mG,p,Td hs _ C,Td hs _ S,hs.tree,hs.tables,U2,m,kM,eV,U3,bW,FU,j9 _ hu,decide_true,decide_false,g1,g2,A,M,g3,g3,g4,g5,g6];exact⟨_,wl,qj⟩
   replace g6:=Classical.not_not.1 g6
   simp only[ZG,seval,Te,mF,mG,p,Td hs _ C,Td hs _ S,hs.tree,hs.tables,U2,m,kM,eV,U3,bW,FU,j9 _ hu,decide_true,decide_false,g1,g2,A,M,g3,g3,g4,g5,g6];exact⟨_,wl,by rw[if_neg (aPa.1 ⟨g1,g2,g3,WF,WF,WF⟩)]⟩
def a3M (hs:SD s v) (hu:eK v.ns) (hp:1<=s.cFg.iH/\s.cFg.iH<=64) (N:Rg s.now) (Y:Rg s.aL.dX.aG) (M:Rg s.aL.fin.aG) (c1 c2:dH) (J:Rg c1.aG) (h2:Rg c2.aG):KC 196 [bc s,ag c1,ag c2] (DZ s v c1 c2):=fun _ _=>aX (jC hs.flat (.agg _ (cM c1)) (.agg _ (cM c2))) (a3L hs hu hp N Y M c1 c2 J h2) Qax
def yQ (s g:Nat) (st st':St):Prop:=(∀x h,h<st.aJ x->¬(x=s/\h=g)->st'.heap x h=st.heap x h)/\∀x,st.aJ x<=st'.aJ x
def FV {P:Program} {fn:Func} {e:Ex} {r:ResultVar} {x:AV} (he:e=.ret\/e=.normal) (X:fn.results.toList=[r]) (J:jP P st r=some x) (D:Iq st x=(x,st):=by rfl):gg P fn (e,st)=some (x,st):=(Kk he X J).trans (congrArg some D)
theorem yQ.refl (s g:Nat) (st:St):yQ s g st st:=⟨fun _ _ _ _=>rfl,fun _=>Nat.le_refl _⟩
def FW:aP 0 1 4/\aP 1 4 8/\aP 2 2 11/\aP 3 2 13/\aP 4 3 14/\aP 5 4 16/\aP 6 3 20/\aP 7 6 22/\aP 8 4 26/\aP 9 5 30/\aP 10 3 34/\aP 11 4 36/\aP 12 4 39:=⟨rfl,rfl,rfl,rfl,rfl,rfl,rfl,rfl,rfl,rfl,rfl,rfl,rfl⟩
structure KOk (K:St->Prop) (s g e sz:Nat) (cs:Nat->List AV->Prop):Prop where
 put:∀st d v,K (St.put st d v)=K st
 new:∀st x,K (St.new st 7 x)=K st
 set:∀st h x,K (St.gV st 7 h x)=K st
 back:∀a st,K (St.back a st)=K st
 row:∀st n C,cs n C->K st->K (St.gV st s g (some (.row e sz n C)))
def aC6 {p:α->Bool} {l:List α} (h:∀j:Nat,j<l.length->∀hj:j<l.length,¬p l[j]=true):l.filter (fun x=>!p x)=l:=by
 grind [filter_eq_self,getElem_of_mem]
def U4 {p:α->Bool} {l:List α} (R:k<l.length) (hp:p l[k]=true) (h:∀j:Nat,j<k->∀hj:j<l.length,¬p l[j]=true):(l.take (k+1)).filter (fun x=>!p x)=l.take k:=by
 rw[take_succ_eq_append_getElem R,filter_append];grind [filter_eq_self,getElem_of_mem]
def aC7 {q:α->Bool} {l:List α} (hk:k<l.length):(l.take (k+1)).filter q=(l.take k).filter q++(if q l[k]=true then [l[k]] else []):=by
 grind [take_succ_eq_append_getElem]
def aKm {p:α->Bool} {l:List α} (hk:k<l.length) (hp:p l[k]=true):(l.filter (fun x=>!p x)).length<l.length:=by
 grind [filter_sublist]
def aKn {z:α} {M L:List α} (h:M.drop j=L.drop j):gx z M (j:Int)=gx z L (j:Int):=by
 have h1:(M.drop j)[0]? = (L.drop j)[0]?:=yi
 grind [gx]
def Tf {M L:List α} (h:M.drop j=L.drop j):M.drop (j+1)=L.drop (j+1):=by
 have:=congrArg (List.drop 1) h
 grind [drop_drop]
def sa {z:α} {l:List α} (h:j<l.length):gx z l (j:Int)=l[j]:=by
 grind [gx]
def aGj {M:List α} (R:k<M.length) (x:α):(M.set k x).take (k+1)=M.take k++[x]:=by
 rw[take_succ_eq_append_getElem (by rw[length_set];exact R),take_set_of_le (Nat.le_refl _),getElem_set_self]
def set_drop {M:List α} (h:k<j) (x:α):(M.set k x).drop j=M.drop j:=by
 rw[drop_set_of_lt h]
end Go.Ab.Tryz
namespace Go.Ab
open Classical
def aC8 {h0:Nat->Obj->Prop} {w w':World} {E Z:Nat}:FX h0 w w' (.uniq E Z 0 []) (.slice none 0 0):=by
 refine⟨[.slice none 0 0],fun x N=>?_,fun i j x y b N hy hb=>?_,fun x N b hb=>?_,fun d c=>rfl,fun D d c _ m=>?_⟩
 ·rw[mem_singleton.1 N];rfl
 ·grind
 ·rw[mem_singleton.1 N] at hb;cases hb
 ·obtain⟨k1,l⟩:=m 0 _ rfl
  refine⟨?_,fun i e x he N=>?_⟩
  ·have:=cD.own (C:=D) d c k1 (by rw[show D.ρ d c=_ from l];rfl)
   rwa [show D.ρ d c=_ from l] at this
  ·cases i with
   | zero=>cases he;cases N;exact⟨[],⟨qe,.inl ⟨none,rfl,rfl⟩⟩,.nil _⟩
   | succ i=>cases he
def l8 [Ext] {P:Program} (hm:P.follows .mixedOrders=true) (N:Ze P) {f E Z:Nat} (h:∀p cap,∃r,aA P f [.v (.slice p 0 cap)]=some r/\(r=af\/r=.uniq E Z 0 [])):Enters P f/\pU P f [.sl 0 []] (.uniq E Z 0 []):=by
 have O4:Enters P f:=by
  obtain⟨r,X,_⟩:=h none 0
  obtain⟨n,M⟩:=(oC P).1 X
  exact (U5 hm N n f _ r M).1
 refine⟨O4,show Eh P f [.sl 0 []] (.uniq E Z 0 []) from fun w h0 vs u gS=>?_⟩
 have W:=gS.len
 obtain⟨v,C⟩:∃v,vs.toList=[v]:=by
  cases e:vs.toList<;>grind
 have S:vs=#[v]:=Array.ext' C
 subst S;have J:cD (bare h0) (.sl 0 []) v:=gS.rel 0 _ v rfl rfl
 obtain⟨p,cap,rfl⟩:=P0 J
 obtain⟨r,X,G⟩:=h p cap
 have hC:Eh P f [.v (.slice p 0 cap)] r:=FY (P:=P) hm N X
 refine (hC w h0 #[.slice p 0 cap] u ⟨rfl,fun i x y N hy=>?_⟩).mono fun e w' ⟨v,he,C,hg⟩=>⟨v,he, ?_,hg⟩
 ·grind [cD.v]
 rcases G with rfl|rfl
 ·obtain⟨us,_,_,_,h4,h5⟩:=C
  have W:us=[]:=length_eq_zero_iff.1 (h4 0 0).symm
  subst W;have:=(h5 (bare (newHs h0 w w' [])) 0 0 (fun _ _ h=>h) qe).1
  rw[iM this];exact aC8
 ·exact C
end Go.Ab
section
namespace Go.Ab.Tryz
open Classical Go.Proofs Go.Ab
section
variable [E:Ext]
theorem sv0 (st:St) (p:Option Addr) (cap:Nat):bA st (.v (.slice p 0 cap))=some (0,[]):=rfl
theorem aGk {f T e sz b:Nat} {fn:Func} {z:List Value} (W:prog.funcs[f]? = some fn) (hb:fn.body=some (fu T)) (nU:aZ fn=true) (X:fn.results.toList=[.tmp 2]) (hs:dD prog T=some (e,sz,b)) (hz:eC prog e=some z)
 (hu:prog.underlying T=some (.slice e)) (N:∀xs,E.ext f xs=none) (C:E.va T 7=false) (hp:E.pa T 7=false) (R:E.oM f=false) (hi:E.im T 5=false) (p:Option Addr) (cap:Nat):∃r,aA prog f [.v (.slice p 0 cap)]=some r/\(r=af\/r=.uniq e sz 0 []):=by
 have G:jS prog .eql T (.v (.slice p 0 cap)) af=some (ae p.isNone):=by
  have h:Gv prog .eql T p.isNone=some (ae p.isNone):=by simp[Gv,hu]
  exact h
 rw[dJ prog W hb nU _ (N _) rfl];cases p with
 | none =>
   refine⟨af, ?_,.inl rfl⟩
   simp only[fu,Tryz.f113,Option.getD_some,Wh,O0,N9,List.map_toArray,id,E8,seval,G,Option.isNone_none];exact Bo R (.inl rfl) X qb (.v _)
 | some a =>
   have Y:=fun s g=>SM (e:=e) (sz:=sz) (by_:=b) (s:=s) (g:=g) (n:=0) (cs:=[]) qe qe ZB
   refine⟨.uniq e sz 0 [], ?_,.inr rfl⟩
   simp only[fu,Tryz.f113,Option.getD_some,Wh,O0,N9,List.map_toArray,id,E8,seval,G,Option.isNone_some,T7 hs hz 5 hi,FZ _ _ T 7 C hp,rG hs,sv0,Y];exact Ki (s:=7) (g:=0) R (.inl rfl) X qb Wl (fun c h=>wu)
end
def aPb:@aZ l9 Tryz.f117=true:=WP
def aWp:@aZ l9 Tryz.f65=true:=WP
def aC9 (h146:∀xs r,gh xs=some r->Enters prog 146/\pU prog 146 xs r) (h243:∀xs r,gj xs=some r->Enters prog 243/\pU prog 243 xs r) (h340:∀xs r,se xs=some r->Enters prog 340/\pU prog 340 xs r) (h335:∀xs r,jx xs=some r->Enters prog 335/\pU prog 335 xs r):mN prog Ext.ext:=fun g xs r h=>by
 have h:o0 g xs=some r:=h
 unfold o0 at h;have N:@Ze l9 prog:=⟨fun _ _ _ h=>wu,fun _ _ _ _ _ h=>wu⟩
 have key:∀ {f e sz},(∀p cap,∃r,@aA l9 prog f [.v (.slice p 0 cap)]=some r/\(r=af\/r=.uniq e sz 0 []))->sg e sz xs=some r->Enters prog f/\pU prog f xs r:=fun G X=>by
  unfold sg at X;split at X
  ·cases X
   exact @l8 l9 prog mixed N _ _ _ G
  ·cases X
 cases hg:g == 117 with
 | true =>
   rw[hg] at h;obtain rfl:g=117:=dn
   exact key (@aGk l9 117 44 66 238 336 _ _ func117 WP aPb rfl Fm jo WP (fun _=>rfl) rfl rfl rfl rfl) h
 | false =>
   rw[hg] at h;cases hg:g == 65 with
   | true =>
     rw[hg] at h;obtain rfl:g=65:=dn
     exact key (@aGk l9 65 53 102 35 56 _ _ func65 WP aWp rfl Ho ZT WP (fun _=>rfl) rfl rfl rfl rfl) h
   | false =>
     grind
end Go.Ab.Tryz
end
section
namespace Go.Ab.Tryz
open Classical Go.Proofs Go.Ab
variable {α:Type} {c:α->List AV} {T E Z b:Nat} {v:List Value}
def gl (T E U I:Nat):Code:=Wh (fun n=>if n=53 then T else if n=102 then E else if n=212 then U else n) (fun n=>if n=205 then I else n) (Tryz.f138.body.getD .skip)
theorem a3O (e:AJ c T E Z b v) {f U I:Nat} {fn:Func} (hf:prog.funcs[f]? = some fn) (hb:fn.body=some (gl T E U I)) (X:fn.results.toList=[.tmp 4]) (nU:Oq true fn=true) (hxI:gm f=false) (hI5:(AR I || GA I 10 || rN I)=false) (hI6:o8 I 10=false)
 (z:α) (L:List α) (hn:bg L.length) (hFl:∀y∈L,∀x∈c y,Flat x) (p:α->Bool) (F s g a b0:Nat) (h7:s≠7) (K:St->Prop) (hK:KOk K s g E Z (fun n C=>∃M:List α,n=M.length/\M.length=L.length/\C=M.flatMap c/\∀y∈M,∀x∈c y,Flat x))
 (J:∀x∈L,∀(st:St) (d:Option Nat),K st->aO (aA prog) F ([.agg (c x)]++[.ptr a b0 0]) st d=some { dst:=d,val:=ae (p x)})
 (KP:∀(st:St) (d:Option Nat),K st->st.heap s g=some (.row E Z L.length (L.flatMap c))->aO (aA prog) I [.own s g,.rL F [.ptr a b0 0]] st d=some { dst:=d,val:=aa (qP (fun k=>p (gx z L k)=true) L.length)})
 (jN:St) (pX:K jN) (hg:g<jN.aJ s) (u:jN.heap s g=some (.row E Z L.length (L.flatMap c))) :
 ∃st' g',oX prog f [.own s g,.rL F [.ptr a b0 0]] jN=some (.own s g',st')/\yQ s g jN st'/\(g'=g\/jN.aJ s<=g')/\g'<st'.aJ s/\st'.heap s g'=some (.row E Z (L.filter fun x=>!p x).length ((L.filter fun x=>!p x).flatMap c)):=by
 have hKp:=hK.put
 have hKn:=hK.new
 have hKs:=hK.set
 have hKb:=hK.back
 have s7:(s=7)=False:=eq_false h7
 have s7':(7=s)=False:=eq_false (fun e=>h7 e.symm)
 have N:∀xs st,Ext.Zy f xs st=none:=fun xs st=>o9 f xs st (by rw[show (Ext.ow f)=false from hxI];rfl)
 suffices key:∃r:AV × St,oX prog f [.own s g,.rL F [.ptr a b0 0]] jN=some r/\∃g',r.1=.own s g'/\yQ s g jN r.2/\(g'=g\/jN.aJ s<=g')/\g'<r.2.aJ s/\r.2.heap s g'=some (.row E Z (L.filter fun x=>!p x).length ((L.filter fun x=>!p x).flatMap c)) by
  obtain⟨⟨x,st'⟩,h1,g',rfl,h2⟩:=key
  exact⟨st',g',h1,h2⟩
 rw[Aj prog hf hb nU _ _ (N _ _)];rcases lA (fun k=>p (gx z L k)=true) L.length with ⟨e0,hj⟩|⟨k,R,hp,hj,e0⟩
 ·have nY:L.filter (fun x=>!p x)=L:=aC6 fun j h1 h2=>by have:=hj j h1;rwa [sa h2] at this
  rw[e0] at KP;simp only[Tg I _ _ (Th (d:=some 10) hI6),Ti I _ _ (d:=some 10) hI5,gl,Tryz.f138,Option.getD_some,Wh,O0,N9,List.map_toArray,ZG,seval,FW,bV,aN,hKp,hKn,hKs,hKb,pX,u,KP,hI5,hI6];refine⟨_,FV (.inl rfl) X (x:=.own s g) ?h1,g,rfl,⟨fun y h h1 h2=>?h2,fun y=>?h3⟩,.inl rfl, ?h5, ?h4⟩
  case h1=>rw[pF];simp only[bC,E8,seval]
  case h2=>simp only[E8,seval,aN,aV]
  case h3=>simp only[E8,seval,aN,aV];exact Nat.le_refl _
  case h5=>simp only[E8,seval,aN,aV];exact hg
  case h4=>simp only[E8,seval,aN,aV,u,nY]
 ·have hp':=hp
  rw[sa R] at hp'
  have bB:=aKm (p:=p) R hp'
  rw[e0] at KP;have hkm:¬(k:Int)=-1:=WF
  have hw0:=wk (k:=k) WF
  simp only[Tg I _ _ (Th (d:=some 10) hI6),Ti I _ _ (d:=some 10) hI5,gl,Tryz.f138,Option.getD_some,Wh,O0,N9,List.map_toArray,ZG,seval,FW,bV,aN,hKp,hKn,hKs,hKb,pX,u,KP,hI5,hI6,bf hkm,hw0];refine jV (fun m st=>∃(j A:Nat) (M:List α),((st.env 0=.own s g/\st.env 1=.rL F [.ptr a b0 0]/\st.env 5=aa (A:Nat)/\st.heap s g=some (.row E Z M.length (M.flatMap c))/\K st)/\st.env 6=aa (j:Nat))/\yQ s g jN st/\M.length=L.length/\(∀y∈M,∀x∈c y,Flat x)/\M.take A=(L.take j).filter (fun x=>!p x)/\A=((L.take j).filter (fun x=>!p x)).length/\M.drop j=L.drop j/\A<j/\j<=L.length/\m=L.length-j)
   (fun e st=>e=.exit 0/\∃(A:Nat) (M:List α),((st.env 0=.own s g/\st.env 1=.rL F [.ptr a b0 0]/\st.env 5=aa (A:Nat)/\st.heap s g=some (.row E Z M.length (M.flatMap c))/\K st))/\yQ s g jN st/\M.length=L.length/\M.take A=L.filter (fun x=>!p x)/\A=(L.filter (fun x=>!p x)).length) (L.length-(k+1)) ?step ?start ?rest
  case step =>
   rintro m st ⟨j,A,M,D,hF,hM,hMf,hT,SU,hD,hkj,hj',hm⟩
   by_cases AE:(j:Int)<M.length
   case neg =>
    have hjn:j=L.length:=WF
    subst hjn;rw[take_length] at hT SU
    apply BW (.exit 0)
    ·simp only[ZG,seval,FW,D,AE,e.sl];rfl
    ·exact⟨rfl,A,M,by simp only[E8,seval,hKp,D],⟨fun y h h1 h2=>by simp only[E8,seval];exact hF.1 y h h1 h2,fun y=>by simp only[E8,seval];exact hF.2 y⟩,hM,hT,SU⟩
   have hjL:j<L.length:=WF
   have q0:(0:Int)<=j:=WF
   have q1:(0:Int)<=A:=WF
   have q2:(A:Int)<M.length:=WF
   have hwj:=wk (k:=j) WF
   have hwk:=wk (k:=A) WF
   have N:=aKn (z:=z) hD
   have hxe:=sa (z:=z) hjL
   obtain⟨x,hxx⟩:∃x,L[j]=x:=⟨_,rfl⟩
   rw[hxe,hxx] at N;have hxm:x∈L:=by rw[<- hxx];exact getElem_mem _
   have kc:=J x hxm
   have Nu:pB prog E (some (.row E Z M.length (M.flatMap c))) ((j:Int).toNat * Z)=some (.agg (c x)):=by
    have h:=Tj (P:=prog) (T:=E) (e:=E) (n:=M.length) (off:=0) (z:=z) e.len q0 AE e.lk e.pos WF
    rw[Nat.add_zero,N,e.cw] at h;exact h
   have XI:=aC7 (q:=fun x=>!p x) hjL
   rw[hxx] at XI;have q4:(A:Int).toNat * Z+Z<=(M.flatMap c).length:=by rw[mL e.len,<- Nat.succ_mul];exact Nat.mul_le_mul_right _ WF
   have up1:dE (M.flatMap c) ((A:Int).toNat * Z) (c x) ((A:Int).toNat * Z+Z)=(M.set A x).flatMap c:=wI e.len M A x WF
   have io1:∀i:Int,0<=i->i<M.length->Vs E Z (some (.row E Z M.length (M.flatMap c))) s g i=some (.ptr s g (i.toNat * Z)):=fun i h0 h1=>by simp[Vs,h0,h1]
   have hset:∀S:St,K S->K (St.gV S s g (some (.row E Z M.length ((M.set A x).flatMap c)))):=fun S=>hK.row S _ _ ⟨M.set A x,by rw[length_set],by rw[length_set];exact hM,rfl,fun y Y=>(mem_or_eq_of_mem_set Y).elim (hMf y) fun e=>by rw[e];exact hFl x hxm⟩
   have hFr:∀S:St,(∀y h,h<st.aJ y->¬(y=s/\h=g)->S.heap y h=st.heap y h)->(∀y,st.aJ y<=S.aJ y)->yQ s g jN S:=fun S h1 h2=>⟨fun y h h3 h4=>by rw[h1 y h (Nat.lt_of_lt_of_le h3 (hF.2 y)) h4,hF.1 y h h3 h4],fun y=>Nat.le_trans (hF.2 y) (h2 y)⟩
   by_cases hp':p x=true
   ·rw[hp'] at kc;simp only[hp',Bool.not_true,Bool.false_eq_true,if_false,append_nil] at XI;apply Ka (L.length-(j+1))
    ·simp only[ZG,seval,FW,D,hKp,hKn,hKs,AE,q0,q1,q2,q4,up1,io1,e.ix,e.sl,e.ze,e.lk,e.len,e.lc,e.zl,e.up,Nat.zero_add,Nat.le_refl,Nu,kc,hwj,hwk,s7,s7'];rfl
    ·exact⟨j+1,A,M,by simp only[E8,seval,D,hKp,hKn,hKs,s7,s7'],hFr _ (fun y h h1 h2=>by
     have n7:(y=7/\h=st.aJ 7)=False:=eq_false qr
     have ng:(y=s/\h=g)=False:=eq_false h2
     simp only[E8,seval,n7,ng,if_false]) (fun y=>by
     simp only[E8,seval];split<;>(try subst_vars)<;>omega),hM,hMf,by rw[XI];exact hT,by rw[XI];exact SU,Tf hD,WF,WF,rfl⟩
   ·have hp2:p x=false:=by simpa using hp'
    rw[hp2] at kc;simp only[hp2,Bool.not_false,if_true] at XI;apply Ka (L.length-(j+1))
    ·simp only[ZG,seval,FW,D,hKp,hKn,hKs,AE,q0,q1,q2,q4,up1,io1,e.ix,e.sl,e.ze,e.lk,e.len,e.lc,e.zl,e.up,Nat.zero_add,Nat.le_refl,Nu,kc,hwj,hwk,s7,s7'];rfl
    ·exact⟨j+1,A+1,M.set A x,by simp only[E8,seval,D,hKp,hKn,hKs,s7,s7',hset,length_set],hFr _ (fun y h h1 h2=>by
     have n7:(y=7/\h=st.aJ 7)=False:=eq_false qr
     have ng:(y=s/\h=g)=False:=eq_false h2
     simp only[E8,seval,n7,ng,if_false]) (fun y=>by
     simp only[E8,seval];split<;>(try subst_vars)<;>omega),by rw[length_set];exact hM,fun y Y=>(mem_or_eq_of_mem_set Y).elim (hMf y) fun e=>by rw[e];exact hFl x hxm,by rw[aGj WF,hT,XI],by rw[XI,length_append,<- SU];rfl,by rw[set_drop WF];exact Tf hD,WF,WF,rfl⟩
  case start =>
   have ff:=U4 (p:=p) R hp' (fun j h1 h2=>by have:=hj j h1;rwa [sa h2] at this)
   exact⟨k+1,k,L,by simp only[E8,seval,bV,aN,hKp,hKn,hKs,hKb,pX,u],⟨fun y h h1 h2=>by simp only[E8,seval,aN],fun y=>by simp only[E8,seval,aV];exact Nat.le_refl _⟩,rfl,hFl,ff.symm,by rw[ff,length_take];omega,rfl,WF,WF,rfl⟩
  case rest =>
   rintro e st ⟨rfl,A,M,D,hF,hM,hT,SU⟩
   have Gt:A<M.length:=WF
   have sv:∀(st:St) (lo:Operand),st.heap s g=some (.row E Z M.length (M.flatMap c))->st.ev lo=aa A->dW prog st T (.own s g) (some lo) none=some (.vw s g (A * Z) (M.length-A)):=fun st lo u he=>by
    have h1:¬((A:Int)=M.length/\¬((A:Int)=0/\0<M.length)):=WF
    have h2:(0:Int)<=A/\(A:Int)<=M.length:=WF
    have h3:((M.length:Int)-(A:Int)).toNat=M.length-A:=WF
    simp only[dW,e.sl,u,he,if_neg h1,h2,h3,Int.le_refl,and_self,if_true,Int.toNat_natCast]
   obtain⟨W,cl⟩:∃W,(∀st:St,st.heap s g=some (.row E Z M.length (M.flatMap c))->tC prog st T (.vw s g (A * Z) (M.length-A))=some (some (s,g,.row E Z M.length ((M.take A).flatMap c++W)))):=by
    refine⟨(List.range (M.length-A)).flatMap fun _=>v.map AV.v,fun st u=>?_⟩
    have G:A * Z+(M.length-A) * Z<=(M.flatMap c).length:=yz
    simp only[tC,e.sl,e.ze,u];rw[if_pos ⟨trivial,trivial,G⟩];have l:(M.flatMap c).drop (A * Z+(M.length-A) * Z)=[]:=drop_of_length_le yz
    rw[l,append_nil,wD e.len]
   have sv2:∀(st:St) (hi:Operand),st.heap s g=some (.row E Z M.length ((M.take A).flatMap c++W))->st.ev hi=aa A->dW prog st T (.own s g) none (some hi)=some (.vw s g 0 A):=fun st hi u he=>by
    have h1:¬((0:Int)=A/\¬((0:Int)=0/\0<M.length)):=WF
    have h2:(0:Int)<=A/\(A:Int)<=M.length:=WF
    simp only[dW,e.sl,u,he,if_neg h1,h2,Int.le_refl,and_self,if_true];simp
    intro h3 h4;rw[h4] at Gt;simp at Gt
   simp only[ZG,seval,FW,D,sv,cl,sv2,j8];have tk:((M.take A).flatMap c++W).take (A * Z)=(M.take A).flatMap c:=by rw[take_append_of_le_length QaA,take_of_length_le QaA]
   refine⟨_,(Kk (.inl rfl) X (x:=.vw s g 0 A) ?h1).trans (congrArg some (aGm (e:=E) (sz:=Z) (n:=M.length) (cs:=(M.take A).flatMap c++W) ?h2 WF)),_,rfl,⟨fun y h h1 h2=>?h3,fun y=>?h4⟩,.inr ?h5, ?h6, ?h7⟩
   case h1=>rw[pF];simp only[bC,E8,seval]
   case h2=>simp only[E8,seval]
   case h3 =>
    have ng:(y=s/\h=g)=False:=eq_false h2
    have n7:(y=s/\h=st.aJ s)=False:=eq_false (by rintro⟨rfl,rfl⟩;have:=hF.2 y;omega)
    simp only[E8,seval,ng,n7,if_false];exact hF.1 y h h1 h2
   case h4 =>
    have:=hF.2 y
    simp only[E8,seval];split<;>(try subst_vars)<;>omega
   case h5=>simp only[E8,seval];exact hF.2 s
   case h6=>simp only[E8,seval];omega
   case h7=>simp only[E8,seval];rw[tk,hT,SU]
end Go.Ab.Tryz
end
section
namespace Go.Ab.Tryz
open Classical Go.Proofs Go.Ab
variable {st:St} {g f U I:Nat} {fn:Func}
variable {α:Type} {c:α->List AV} {T E Z b:Nat} {v:List Value}
theorem aBy {o:Option (List α)} {s:Nat} (u:∀L,o=some L->st.heap s g=some (.row E Z L.length (L.flatMap c))) (A:∀y∈ol o,∀x∈c y,Flat x):eE st (rv s g o)=some (ov (List.flatMap c) o):=by
 cases o with
 | none=>exact xA _ _
 | some L=>exact Bz (u L rfl) fun x N=>by obtain⟨y,Y,N⟩:=mem_flatMap.1 N;exact A y Y x N
theorem aWs (e:AJ c T E Z b v) (W:prog.funcs[f]? = some fn) (hb:fn.body=some (gl T E U I)) (X:fn.results.toList=[.tmp 4]) (nU:Oq true fn=true) (Y:gm f=false) (l:(AR I || GA I 10 || rN I)=false) (m:o8 I 10=false)
 (z:α) (o:Option (List α)) (hn:bg (ol o).length) (A:∀y∈ol o,∀x∈c y,Flat x) (p:α->Bool) (F s g a b0:Nat) (h7:s≠7) (K:St->Prop) (hK:KOk K s g E Z (fun n C=>o.isSome=true/\∃M:List α,n=M.length/\M.length=(ol o).length/\C=M.flatMap c/\∀y∈M,∀x∈c y,Flat x))
 (J:∀x∈ol o,∀(st:St) (d:Option Nat),K st->aO (aA prog) F ([.agg (c x)]++[.ptr a b0 0]) st d=some { dst:=d,val:=ae (p x)})
 (G:∀(st:St) (d:Option Nat),K st->(∀L,o=some L->st.heap s g=some (.row E Z L.length (L.flatMap c)))->aO (aA prog) I [rv s g o,.rL F [.ptr a b0 0]] st d=some { dst:=d,val:=aa (qP (fun k=>p (gx z (ol o) k)=true) (ol o).length)})
 (jN:St) (pX:K jN) (u:∀L,o=some L->g<jN.aJ s/\jN.heap s g=some (.row E Z L.length (L.flatMap c))) :
 ∃g' st',oX prog f [rv s g o,.rL F [.ptr a b0 0]] jN=some (rv s g' o,st')/\yQ s g jN st'/\∀L,o=some L->(g'=g\/jN.aJ s<=g')/\g'<st'.aJ s/\st'.heap s g'=some (.row E Z (L.filter fun x=>!p x).length ((L.filter fun x=>!p x).flatMap c)):=by
 cases o with
 | some L =>
   obtain⟨hg,u⟩:=u L rfl
   obtain⟨st',g',h1,h2,h3⟩:=a3O e W hb X nU Y l m z L hn A p F s g a b0 h7 K ⟨hK.put,hK.new,hK.set,hK.back,fun st n C h=>hK.row st n C ⟨rfl,h⟩⟩ J (fun st d R h=>G st d R fun L' e=>om) jN pX hg u
   exact⟨g',st',h1,h2,fun L' e=>by cases e;exact h3⟩
 | none =>
   have N:∀xs st,Ext.Zy f xs st=none:=fun xs st=>o9 f xs st (by rw[show (Ext.ow f)=false from Y];rfl)
   have hKb:=hK.back
   have D:=hK.put
   have G:∀(S:St) (d:Option Nat),K S->aO (aA prog) I [af,.rL F [.ptr a b0 0]] S d=some { dst:=d,val:=aa (-1)}:=fun S d R=>G S d R nofun
   suffices key:∃r:AV × St,oX prog f [af,.rL F [.ptr a b0 0]] jN=some r/\r.1=af/\yQ s g jN r.2 by
    obtain⟨⟨x,st'⟩,h1,rfl,h2⟩:=key
    exact⟨0,st',h1,h2,fun L e=>bz⟩
   rw[Aj prog W hb nU _ _ (N _ _)];simp only[Tg I _ _ (Th (d:=some 10) m),Ti I _ _ (d:=some 10) l,gl,Tryz.f138,Option.getD_some,Wh,O0,N9,List.map_toArray,ZG,seval,FW,bV,aN,hKb,D,pX,G];refine⟨_,FV (.inl rfl) X (x:=af) ?h1,rfl,⟨fun y h h1 h2=>?h2,fun y=>?h3⟩⟩
   case h1=>rw[pF];simp only[bC,E8,seval]
   case h2=>simp only[E8,seval,aN,aV]
   case h3=>simp only[E8,seval,aN,aV];exact Nat.le_refl _
theorem aWt (e:AJ c T E Z b v) (W:prog.funcs[f]? = some fn) (hb:fn.body=some (gl T E U I)) (X:fn.results.toList=[.tmp 4]) (nU:Oq true fn=true) (hxI:gm f=false) (l:(AR I || GA I 10 || rN I)=false) (m:o8 I 10=false)
 (z:α) (o:Option (List α)) (M:bg (ol o).length) (A:∀y∈ol o,∀x∈c y,Flat x) (p:α->Bool) (F s g a b0:Nat) (h7:s≠7) (cap:List AV) (nM:∀x∈cap,Flat x) (Y:a≠7) (D:¬(a=s/\b0=g))
 (J:∀x∈ol o,aA prog F [.agg (c x),.ip cap 0]=some (ae (p x)))
 (G:(∀x∈ol o,∀(st:St) (d:Option Nat),aO (aA prog) F ([.agg (c x)]++[.ip cap 0]) st d=some { dst:=d,val:=ae (p x)})->aA prog I [ov (List.flatMap c) o,.rL F [.ip cap 0]]=some (aa (qP (fun k=>p (gx z (ol o) k)=true) (ol o).length)))
 (jN:St) (pX:jN.heap a b0=some (.cells cap)) (u:∀L,o=some L->g<jN.aJ s/\jN.heap s g=some (.row E Z L.length (L.flatMap c))) :
 ∃g' st',oX prog f [rv s g o,.rL F [.ptr a b0 0]] jN=some (rv s g' o,st')/\yQ s g jN st'/\∀L,o=some L->(g'=g\/jN.aJ s<=g')/\g'<st'.aJ s/\st'.heap s g'=some (.row E Z (L.filter fun x=>!p x).length ((L.filter fun x=>!p x).flatMap c)):=by
 have fI:Flat (.ip cap 0):=.ip _ _ nM
 have fA:∀x∈ol o,Flat (.agg (c x)):=fun x N=>.agg _ (A x N)
 have G:=G fun x N st d=>aX (aU (fA x N) fI) (J x N) (.v _)
 have r:(a=7)=False:=eq_false Y
 have hab':(a=s/\b0=g)=False:=eq_false D
 refine aWs e W hb X nU hxI l m z o M A p F s g a b0 h7 (fun S=>S.heap a b0=some (.cells cap))
  ⟨fun S d v=>by simp only[GB],fun S x=>by simp only[Fy,r,false_and,if_false],fun S h x=>by simp only[qV,r,false_and,if_false],fun x S=>by simp only[aN],fun S n C _ h=>by
   show (St.gV S s g _).heap a b0=_
   simp only[qV,hab',if_false];exact h⟩
  (fun x N S d R=>?_) (fun S d R u=>?_) jN pX u
 ·have R:S.heap a b0=some (.cells cap):=R
  rw[dZ,singleton_append,map_cons,map_cons,map_nil,cV (fA x N),Tk R nM,aM,aM,dB];exact Ee (J x N)
 ·have R:S.heap a b0=some (.cells cap):=R
  rw[dZ,map_cons,map_cons,map_nil,aBy u A,kM,R,By S nM 0,Option.map_some,aM,aM,dB];exact zP G
theorem tW {P:Program} {args:List AV} {β:Type} {k:AV × St->Option β} {R:β->Prop} (Q:St->AV->St->Prop) (h:∃X st',oX P g args st=some (X,st')/\Q st X st')
 (rest:∀X st',Q st X st'->∃r,k (X,st')=some r/\R r):∃r,cT (oX P g args st) k=some r/\R r:=by
 obtain⟨X,st',J,h2⟩:=h
 rw[J];exact rest X st' h2
def aPd (o:Option (List Table)) (M:bg (ol o).length) (A:∀y∈ol o,Flat y.fL) (J:dH) (s g a b:Nat) (h7:s≠7) (ha:a≠7) (D:¬(a=s/\b=g)) (p:St) (S:p.heap a b=some (.cells (bI J))) (u:∀L,o=some L->g<p.aJ s/\p.heap s g=some (.row 74 34 L.length (bG L))) :=
 aWt (U:=259) (I:=235) Ku func197 WP rfl WP rfl rfl rfl fW o M (fun y Y=>rT y (A y Y)) (fun x=>decide (x.ck.aG<J.aG)) 198 s g a b h7 (bI J) (cM J) ha D (fun x _=>a3E x J) (aGg o M 198 _ _) p S u
def aPe (o:Option (List Block)) (M:bg (ol o).length) (J:Int) (s g a b:Nat) (h7:s≠7) (Y:a≠7) (D:¬(a=s/\b=g)) (p:St) (S:p.heap a b=some (.cells (qY J))) (u:∀L,o=some L->g<p.aJ s/\p.heap s g=some (.row 66 238 L.length (aK L))) :=
 aWt (U:=217) (I:=141) EH func201 WP rfl WP rfl rfl rfl gQ o M (fun y _=>yR y) (fun x=>decide (x.slot<=J)) 202 s g a b h7 (qY J) (eA J) Y D (fun x _=>a3F x J) (aFw o M 202 _ _) p S u
end Go.Ab.Tryz
end
