/-
  Part 13 of the proof: an evaluator of programs, its soundness, and what functions of this program compute.
-/
import Derived.Test.YthkgnakbkaafgaaGreatK12
import Derived.Test.YthkgnakbkaafgaaGreatK11
set_option linter.all false
set_option maxRecDepth 20000
set_option maxHeartbeats 40000000
open Go.IntKind (i64 u64)
open List Go.Proofs.Tryz
noncomputable section
namespace Go.Ab.Tryz
open Classical Go.Proofs Go.Ab
variable {t:State} {v:SV} {Q R:Option (List Request)} {q:Int}
structure TD (t:State) (v:SV) (Q R:Option (List Request)):Prop where
 sd:SD t.store v
 Nx:t.fX=ov aC Q
 ret:t.iB=ov aC R
 nQ:((ol Q).length:Int)<900000
 nR:((ol R).length:Int)<900000
def TD.fl {t:State} {v:SV} {Q R:Option (List Request)} (h:TD t v Q R):Flat t.store.cFg.fL/\Flat t.store.dI.cJ/\Flat t.store.dI.dM/\Flat t.store.bH.early/\Flat t.store.bH.bL/\Flat t.store.tree.nodes/\Flat t.store.tables/\Flat t.fX/\Flat t.iB:=by
 obtain⟨J,h2,S,X,C,r,u⟩:=h.sd.fl
 exact⟨J,h2,S,X,C,r,u,by rw[h.Nx];exact fS Q,by rw[h.ret];exact fS R⟩
theorem TD.flat (h:TD t v Q R):Flat (bd t):=(qM t).2 h.fl
def wG (ns:List Node) (r:bU):Prop:=0<=aD ns r/\(nd ns (aD ns r)).status=0
def aUZ (h:TD t v Q R) (r:bU):aA prog 256 [bd t,.agg (aW r)]=some (ae (decide (wG v.ns r))):=by
 have X:=cB v.ns r
 rw[cL func256 rfl aU0 rfl];refine eM ?_
 by_cases g1:0<=aD v.ns r
 ·by_cases g2:(nd v.ns (aD v.ns r)).status=0
  ·simp only[Z8,seval,h.sd.tree,qL _ _ h.sd.nn,g1,X.2,bt g2];exact⟨_,bE rfl Wl XG,dp⟩
  ·simp only[Z8,seval,h.sd.tree,qL _ _ h.sd.nn,g1,X.2,bf g2];exact⟨_,bE rfl Wl XG,dp⟩
 ·simp only[Z8,seval,h.sd.tree,qL _ _ h.sd.nn,g1];exact⟨_,bE rfl Wl XG,by simp[wG,g1]⟩
def aU1 (h:TD t v Q R) (r:bU) (st:St) (d:Option Nat):aO (aA prog) 256 [bd t,.agg (aW r)] st d=some { dst:=d,val:=ae (decide (wG v.ns r))}:=kx (aUZ h r) (aU h.flat (oE r)) (.v _) st d
def aOM (t:State) (L:List Request) (r:bU) (n:Int):State:={ t with fX:=ov aC (some (L++[⟨⟨t.cI⟩,r,n,0⟩])),cI:=u64.wrap (t.cI+1)}
def a2f (h:TD t v Q R) (r:bU) (n:Int):aA prog 257 [bd t,.agg (aW r),aa n]=some (bd (aOM t (ol Q) r n)):=by
 have p:=h.fl
 have nq:bg (ol Q).length:=dm
 rw[cL func257 rfl aU2 rfl];refine eM ?_
 simp only[Z8,seval,h.Nx,rX _ nq,mS _ _ _ _ nq];exact⟨_,xq,rfl⟩
def kX (ns:List Node) (l:List Request):List Request:=l.filter fun r=>decide (0<=aD ns r.block)
def aU3 (h:TD t v Q R) (o:Option (List Request)) (hn:bg (ol o).length):aA prog 258 [bd t,ov aC o]=some (Sf 102 35 aC (kX v.ns (ol o))):=by
 rw[cL func258 rfl aU4 wa]
 refine eM ?_
 simp only[Z8,seval];refine bP (fun m st=>∃k:Nat,(st.env 2=.ptr 2 0 0/\st.heap 2 0=some (.cells (aE t))/\st.env 1=ov aC o/\st.env 6=aa k)/\(((((ol o).take k).filter (fun r=>decide (0<=aD v.ns r.block)))=[]/\st.env 5=af)\/((((ol o).take k).filter (fun r=>decide (0<=aD v.ns r.block)))≠[]/\∃g,st.env 5=.own 29 g/\g<st.aJ 29/\st.heap 29 g=some (.row 102 35 (((ol o).take k).filter (fun r=>decide (0<=aD v.ns r.block))).length (aC (((ol o).take k).filter (fun r=>decide (0<=aD v.ns r.block)))))))/\k<=(ol o).length/\m=(ol o).length-k)
  (fun e st=>e=.exit 0/\(((((ol o).take (ol o).length).filter (fun r=>decide (0<=aD v.ns r.block)))=[]/\st.env 5=af)\/((((ol o).take (ol o).length).filter (fun r=>decide (0<=aD v.ns r.block)))≠[]/\∃g,st.env 5=.own 29 g/\g<st.aJ 29/\st.heap 29 g=some (.row 102 35 (((ol o).take (ol o).length).filter (fun r=>decide (0<=aD v.ns r.block))).length (aC (((ol o).take (ol o).length).filter (fun r=>decide (0<=aD v.ns r.block)))))))/\st.env 2=.ptr 2 0 0/\st.heap 2 0=some (.cells (aE t))/\st.env 1=ov aC o) ((ol o).length) ?step ?start ?rest
 case step =>
  rintro m st ⟨k,D,C,hk,hm⟩
  have X:bg ((((ol o).take k).filter (fun r=>decide (0<=aD v.ns r.block))).length:Nat):=qg
  by_cases A:(k:Int)<(ol o).length
  ·obtain ⟨q0,hw⟩ := yY k
   have hs:=Vz cS (fun r=>decide (0<=aD v.ns r.block)) (ol o) k WF
   by_cases u:0<=aD v.ns (gx cS (ol o) (k:Int)).block
   ·rw[if_pos (decide_eq_true u)] at hs;rcases C with ⟨Y,C⟩|⟨Y,g,C⟩
    all_goals
     try rw[Y] at hs
     apply oN ((ol o).length-(k+1))
     ·simp only[Z8,seval,D,C,X,A,hw,q0,h.sd.tree,qL _ _ h.sd.nn,u];rfl
     ·exact⟨k+1,XC,.inr ⟨cq,_,Wl,Yo,QaZ⟩,WF,rfl⟩
   ·rw[if_neg dq,append_nil] at hs
    apply oN ((ol o).length-(k+1))
    ·simp only[Z8,seval,D,A,hw,q0,h.sd.tree,qL _ _ h.sd.nn,u];rfl
    ·exact⟨k+1,XC,by rw[hs];simpa only[E8,seval] using C,WF,rfl⟩
  ·have G:k=(ol o).length:=WF
   rw[G] at C;apply oT (.exit 0)
   ·simp only[Z8,seval,D,A];rfl
   ·exact⟨rfl,by simpa only[E8,seval] using C,XC⟩
 case start=>exact⟨0,Wl,.inl ⟨rfl,qb⟩,WF,WF⟩
 case rest =>
  rintro e st ⟨rfl,⟨Y,C⟩|⟨Y,g,C,hg,Ea⟩,D⟩
  ·rw[take_length] at Y;rw[show Sf 102 35 aC (kX v.ns (ol o))=af from if_pos Y];simp only[Z8,seval,C];exact⟨_,bE rfl wh XG,rfl⟩
  ·rw[take_length] at Y Ea;rw[show Sf 102 35 aC (kX v.ns (ol o))=.uniq 102 35 (kX v.ns (ol o)).length (aC (kX v.ns (ol o))) from if_neg Y];simp only[Z8,seval,C];exact⟨_,oH rfl wh Qbo (dG _),rfl⟩
def S5 (t:State) (v:SV) (Q R:Option (List Request)):State:={ t with fX:=ov aC (nz (kX v.ns (ol Q))),iB:=ov aC (nz (kX v.ns (ol R)))}
def aU5 (h:TD t v Q R):aA prog 177 [bd t]=some (bd (S5 t v Q R)):=by
 have p:=h.fl
 have W:=h.flat
 have J:=aU3 h Q dm
 have D:=aU3 h R (by have:=h.nR;omega)
 rw[cL func177 rfl aU6 rfl];refine eM ?_
 by_cases A:kX v.ns (ol Q)=[]
 ·rw[show Sf 102 35 aC (kX v.ns (ol Q))=af from if_pos A] at J;have N:nz (kX v.ns (ol Q))=none:=if_pos A
  have G:=kx J (aU W (fS Q)) (.v _)
  by_cases M:kX v.ns (ol R)=[]
  ·rw[show Sf 102 35 aC (kX v.ns (ol R))=af from if_pos M] at D;have z2:nz (kX v.ns (ol R))=none:=if_pos M
   have C:=kx D (aU W (fS R)) (.v _)
   simp only[Z8,seval,h.Nx,h.ret,G,C];exact⟨_,iI rfl mi (by simp only[Z8,seval,p]<;>rfl) (by simp only[sB,and_self,p]),mu⟩
  ·rw[show Sf 102 35 aC (kX v.ns (ol R))=.uniq 102 35 (kX v.ns (ol R)).length (aC (kX v.ns (ol R))) from if_neg M] at D;have z2:nz (kX v.ns (ol R))=some (kX v.ns (ol R)):=if_neg M
   have C:∀(st:St) (d:Nat),aO (aA prog) 258 [bd t,ov aC R] st (some d)=_:=fun st d=>gA (st:=st) (d:=d) (aU W (fS R)) D
   simp only[Z8,seval,h.Nx,h.ret,G,C];exact⟨_,xq,mu⟩
 ·rw[show Sf 102 35 aC (kX v.ns (ol Q))=.uniq 102 35 (kX v.ns (ol Q)).length (aC (kX v.ns (ol Q))) from if_neg A] at J;have N:nz (kX v.ns (ol Q))=some (kX v.ns (ol Q)):=if_neg A
  have G:∀(st:St) (d:Nat),aO (aA prog) 258 [bd t,ov aC Q] st (some d)=_:=fun st d=>gA (st:=st) (d:=d) (aU W (fS Q)) J
  by_cases M:kX v.ns (ol R)=[]
  ·rw[show Sf 102 35 aC (kX v.ns (ol R))=af from if_pos M] at D;have z2:nz (kX v.ns (ol R))=none:=if_pos M
   have C:=kx D (aU W (fS R)) (.v _)
   simp only[Z8,seval,h.Nx,h.ret,G,C];exact⟨_,xq,mu⟩
  ·rw[show Sf 102 35 aC (kX v.ns (ol R))=.uniq 102 35 (kX v.ns (ol R)).length (aC (kX v.ns (ol R))) from if_neg M] at D;have z2:nz (kX v.ns (ol R))=some (kX v.ns (ol R)):=if_neg M
   have C:∀(st:St) (d:Nat),aO (aA prog) 258 [bd t,ov aC R] st (some d)=_:=fun st d=>gA (st:=st) (d:=d) (aU W (fS R)) D
   simp only[Z8,seval,h.Nx,h.ret,G,C];exact⟨_,xq,mu⟩
def TD.drp (h:TD t v Q R):TD (S5 t v Q R) v (nz (kX v.ns (ol Q))) (nz (kX v.ns (ol R))):=by
 have h1:=length_filter_le (fun r:Request=>decide (0<=aD v.ns r.block)) (ol Q)
 have h2:=length_filter_le (fun r:Request=>decide (0<=aD v.ns r.block)) (ol R)
 refine⟨h.sd,rfl,rfl, ?_, ?_⟩
 ·rw[mE];have:=h.nQ;unfold kX;omega
 ·rw[mE];have:=h.nR;unfold kX;omega
def L0 (ns:List Node) (p:Option (List Request) × Int) (r:bU):Option (List Request) × Int:=if wG ns r then (some (ol p.1++[⟨⟨p.2⟩,r,0,0⟩]),u64.wrap (p.2+1)) else p
def CB (ns:List Node) (p:Option (List Request) × Int) (l:List bU):Option (List Request) × Int:=l.foldl (L0 ns) p
def aFS (ns:List Node) (a:Option (List Request) × Int) (l:List bU) (k:Nat) (h:k<l.length):CB ns a (l.take (k+1))=L0 ns (CB ns a (l.take k)) (gx bQ l k):=by
 grind [CB,take_succ_eq_append_getElem,gx]
def kQ (t:State) (p:Option (List Request) × Int):State:={ t with fX:=ov aC p.1,cI:=p.2 }
theorem TD.kQ {t:State} {v:SV} {Q R:Option (List Request)} (h:TD t v Q R) (p:Option (List Request) × Int) (M:((ol p.1).length:Int)<900000):TD (kQ t p) v p.1 R:=⟨h.sd,rfl,h.ret,M,h.nR⟩
def aON (h:TD t v Q R):Tryz.kQ t (Q,t.cI)=t:=by unfold Tryz.kQ;simp only;rw[<- h.Nx]
theorem aJW (ns:List Node) (p:Option (List Request) × Int) (r:bU):(ol (L0 ns p r).1).length<=(ol p.1).length+1:=by
 grind [L0,ol]
theorem aBn (ns:List Node) (p:Option (List Request) × Int) (l:List bU):(ol (CB ns p l).1).length<=(ol p.1).length+l.length:=by
 induction l generalizing p<;>grind [aJW,CB]
def a2g (h:TD t v Q R) (L:Option (List bU)) (hn:((ol Q).length:Int)+(ol L).length<800000):aA prog 179 [bd t,ov fN L]=some (bd (Tryz.kQ t (CB v.ns (Q,t.cI) (ol L)))):=by
 have hT:∀k:Nat,k<=(ol L).length->TD (Tryz.kQ t (CB v.ns (Q,t.cI) ((ol L).take k))) v (CB v.ns (Q,t.cI) ((ol L).take k)).1 R:=fun k hk=>h.kQ _ (by
  grind [aBn])
 rw[cL func179 rfl aU7 du]
 refine eM ?_
 simp only[Z8,seval];refine bP (fun m st=>∃k:Nat,(st.env 1=ov fN L/\st.env 2=.ptr 2 0 0/\st.heap 2 0=some (.cells (aE (Tryz.kQ t (CB v.ns (Q,t.cI) ((ol L).take k)))))/\st.env 4=.ptr 4 0 0/\st.heap 4 0=some (.cells (aE iS))/\st.env 5=aa k)/\k<=(ol L).length/\m=(ol L).length-k)
  (fun e st=>e=.exit 0/\(st.env 2=.ptr 2 0 0/\st.heap 2 0=some (.cells (aE (Tryz.kQ t (CB v.ns (Q,t.cI) (ol L)))))/\st.env 4=.ptr 4 0 0/\st.heap 4 0=some (.cells (aE iS)))) (ol L).length ?step ?start ?rest
 case step =>
  rintro m st ⟨k,D,hk,hm⟩
  by_cases A:(k:Int)<(ol L).length
  ·obtain ⟨q0,hw⟩ := yY k
   have hs:=aFS v.ns (Q,t.cI) (ol L) k WF
   have M:=hT k hk
   have N:=aU1 M (gx bQ (ol L) (k:Int))
   by_cases g1:wG v.ns (gx bQ (ol L) (k:Int))
   ·have J:=hT (k+1) WF
    have C:=kx (a2f M (gx bQ (ol L) (k:Int)) 0) (jC M.flat (oE _) (.v _)) (by
     grind [aOM,kQ,L0.eq_1,TD.flat])
    have he:aOM (Tryz.kQ t (CB v.ns (Q,t.cI) ((ol L).take k))) (ol (CB v.ns (Q,t.cI) ((ol L).take k)).1) (gx bQ (ol L) (k:Int)) 0=Tryz.kQ t (CB v.ns (Q,t.cI) ((ol L).take (k+1))):=by rw[hs,L0,if_pos g1];rfl
    rw[he] at C
    apply oN ((ol L).length-(k+1))
    ·simp only[Z8,seval,D,A,q0,N,g1,C,hw];rfl
    ·exact⟨k+1,XC,WF,rfl⟩
   ·rw[L0,if_neg g1] at hs;apply oN ((ol L).length-(k+1))
    ·simp only[Z8,seval,D,A,q0,N,g1,hw];rfl
    ·exact⟨k+1,by simp only[E8,seval,D,hs],WF,rfl⟩
  ·have G:k=(ol L).length:=WF
   rw[G,take_length] at D;apply oT (.exit 0)
   ·simp only[Z8,seval,D,Int.lt_irrefl];rfl
   ·exact⟨rfl,XC⟩
 case start=>exact⟨0,by rw[take_zero,show CB v.ns (Q,t.cI) []=(Q,t.cI) from rfl,aON h];simp only[E8,seval]<;>rfl,WF,WF⟩
 case rest =>
  rintro e st ⟨rfl,D⟩
  have J:=(hT (ol L).length (Nat.le_refl _)).fl
  rw[take_length] at J;simp only[Z8,seval,D];exact⟨_,iI rfl (by simp only[E8,seval,D,J]<;>rfl) (by simp only[Z8,seval,D,J]<;>rfl) jd,rfl⟩
def EU (b:Int):Nat->Int->Int
 | 0,d=>d
 | n+1,d=>if u64.wrap (b-d)<=d then b else EU b n (u64.wrap (2 * d))
def AL (n b:Int):Int:=if b=0 then 0 else EU b (n-1).toNat 1
def a2i (n b:Int) (hn:n<=9223372036854775807):aA prog 321 [aa n,ac b]=some (ac (AL n b)):=by
 rw[cL func321 rfl aU8 rfl];refine eM ?_
 by_cases g0:b=0
 ·simp only[Z8,seval,bt g0];exact⟨_,bE rfl,by rw[AL,if_pos g0]⟩
 simp only[Z8,seval,bf g0];refine bP (fun m st=>∃(k:Nat) (d i:Int),(st.env 0=aa n/\st.env 1=ac b/\st.env 5=ac d/\st.env 6=aa i)/\i=k+1/\EU b ((n-1).toNat-k) d=EU b (n-1).toNat 1/\k<=(n-1).toNat/\m=(n-1).toNat-k)
  (fun e st=>(e=.ret/\st.env 4=ac (EU b (n-1).toNat 1))\/(e=.exit 0/\st.env 5=ac (EU b (n-1).toNat 1))) (n-1).toNat ?step ?start ?rest
 case step =>
  rintro m st ⟨k,d,i,D,hi,l,hk,hm⟩
  by_cases A:i<n
  ·have hw:i64.wrap (i+1)=i+1:=Dz _ WF WF
   have e1:(n-1).toNat-k=((n-1).toNat-(k+1))+1:=WF
   rw[e1,EU] at l;by_cases g1:u64.wrap (b-d)<=d
   ·rw[if_pos g1] at l;apply oT (.ret)
    ·simp only[Z8,seval,D,A,g1];rfl
    ·exact .inl ⟨rfl,by rw[<- l];simp only[E8,seval]⟩
   ·rw[if_neg g1] at l;apply oN ((n-1).toNat-(k+1))
    ·simp only[Z8,seval,D,A,g1,hw];rfl
    ·exact⟨k+1,_,i+1,UV,WF,l,WF,rfl⟩
  ·have e1:(n-1).toNat-k=0:=WF
   rw[e1,EU] at l;apply oT (.exit 0)
   ·simp only[Z8,seval,D,A];rfl
   ·exact .inr ⟨rfl,by rw[<- l];simp only[E8,seval,D]⟩
 case start=>exact⟨0,1,1,qz,rfl,rfl,WF,WF⟩
 case rest =>
  rintro e st (⟨rfl,h⟩|⟨rfl,h⟩)
  ·simp only[Z8,seval,h];exact⟨_,bE rfl qm vd,by rw[AL,if_neg g0]⟩
  ·simp only[Z8,seval,h];exact⟨_,bE rfl qm vd,by rw[AL,if_neg g0]⟩
def a2j (n b:Int) (M:n<=9223372036854775807) (st:St) (d:Option Nat):aO (aA prog) 321 [aa n,ac b] st d=some { dst:=d,val:=ac (AL n b)}:=kx (a2i n b M) (aU (.v _) (.v _)) (.v _) st d
def x47 {s:aF} (h:GI s v q) (r:RG s v) (hB:0<(ol v.B).length/\(ol v.B).length<=64) (k:Int) (R:0<=k):∃x,aA prog 47 [bc s,aa k]=some x/\∃(a:qX) (V:List Int),x=au a/\a.dL=ov aH (some V)/\(V.length:Int)<=1000/\Rg a.slot/\Rg a.target.aG:=by
 have hn:=h.sd.nn
 have hp:(0:Int)<(v.ns.length:Int):=iz
 have S:¬((v.ns.length:Int)=0):=WF
 obtain⟨m1,m2⟩:=fU (n:=(v.ns.length:Int)) R hp
 obtain⟨i,hi⟩:∃i,k.tmod (v.ns.length:Int)=i:=⟨_,rfl⟩
 rw[hi] at m1 m2;obtain⟨m3,m4⟩:=fU (n:=(v.ns.length:Int)) (Ms R (min 4 i64.bits)) hp
 have C:=h.sp
 obtain⟨l,kl,hl⟩:=k88 (ol v.B).length ((k).fdiv (2 ^ min 3 i64.bits)) WF WF
 have nl:bg l.length:=WF
 have rn:Rg s.now:=⟨r.now.1,iw⟩
 rw[cL func47 rfl a2k rfl];obtain⟨F,u⟩:∃F:Int->dH,∀e,aA prog 86 [bc s,aa i,ac (u64.wrap e)]=some (ag (F e))/\Rg (F e).aG:=by
  refine Classical.axiomOfChoice (r:=fun (e:Int) (c:dH)=>aA prog 86 [bc s,aa i,ac (u64.wrap e)]=some (ag c)/\Rg c.aG) fun e=>?_
  obtain⟨y,hy,c,rfl,rc⟩:=x86 h r i (u64.wrap e) (jF _)
  grind
 have A:=fun e=>kx (u e).1 (jC h.sd.flat (.v _) (.v _)) (.agg _ (cM _))
 by_cases g1:0<((((k).fdiv (2 ^ min 9 i64.bits))).tmod 4)<;>by_cases g2:0<s.now
 all_goals
  by_cases d0:((((k).fdiv (2 ^ min 12 i64.bits))).tmod 20)=0
  ·simp only[Z8,seval,h.sd.tree,h.sd.fL,S,hi,m1,m2,kl,g1,g2,C,A,bt d0];exact⟨_,wj,_,l,rfl,rfl,WF,jg,jF _⟩
  by_cases d1:((((k).fdiv (2 ^ min 12 i64.bits))).tmod 20)=1
  ·simp only[Z8,seval,h.sd.tree,h.sd.fL,S,hi,m1,m2,kl,g1,g2,C,A,bf d0,bt d1,lK];exact⟨_,wj,_,l,rfl,rfl,WF,jg,(u _).2⟩
  by_cases d2:((((k).fdiv (2 ^ min 12 i64.bits))).tmod 20)=2
  ·simp only[Z8,seval,h.sd.tree,h.sd.fL,S,hi,m1,m2,kl,g1,g2,C,A,bf d0,bf d1,bt d2,m3,m4];exact⟨_,wj,_,l,rfl,rfl,WF,jg,(u _).2⟩
  by_cases d3:((((k).fdiv (2 ^ min 12 i64.bits))).tmod 20)=3
  ·simp only[Z8,seval,h.sd.tree,h.sd.fL,S,hi,m1,m2,kl,g1,g2,C,A,bf d0,bf d1,bf d2,bt d3];exact⟨_,wj,_,l,rfl,rfl,WF,jF _,(u _).2⟩
  by_cases d4:((((k).fdiv (2 ^ min 12 i64.bits))).tmod 20)=4
  ·simp only[Z8,seval,h.sd.tree,h.sd.fL,S,hi,m1,m2,kl,g1,g2,C,A,bf d0,bf d1,bf d2,bf d3,bt d4,Ai _ _ _ _ nl];exact⟨_,wj,_,l++[((((k).fdiv (2 ^ min 17 i64.bits))).tmod 9)],rfl,rfl,qg,jg,(u _).2⟩
  simp only[Z8,seval,h.sd.tree,h.sd.fL,S,hi,m1,m2,kl,g1,g2,C,A,bf d0,bf d1,bf d2,bf d3,bf d4];exact⟨_,wj,_,l,rfl,rfl,WF,jg,(u _).2⟩
def Mt {call:Nat->List AV->Option AV} {ops:Array Oper} {st:St} {T:Nat} {pos:String} {aft:Array Edge} (d:Nat):cU prog call ops ⟨some d,.buildSlice 22 6 #[(0,.const (.int .i64 1)),(1,.const (.int .i64 1)),(2,.const (.int .i64 2)),(3,.const (.int .i64 2)),(4,.const (.int .i64 3)),(5,.const (.int .i64 4))],T,pos,aft,none⟩ st =
 some ((st.new d (.row 3 1 6 (aH [1,1,2,2,3,4]))).put (some d) (.own d (st.aJ d))):=by
 rw[gF 22 _ _ _ KH];simp[Ny,cd,cT,St.ev,AV.lL,Value.oneCell',mP,AV.cells,List.range,List.range.loop,aH,oF]
def x50 (hT:TD t v Q R) (h:GI t.store v q) (hq:∀r∈ol Q,Rg r.tagged.tag) (k:Int) (hk:0<=k):∃x,aA prog 50 [bd t,aa k]=some x/\∃w:fM,x=am w/\Rg w.tagged.tag:=by
 have M:=h.sd.nn
 have hp:(0:Int)<(v.ns.length:Int):=iz
 have S:¬((v.ns.length:Int)=0):=WF
 obtain⟨m1,m2⟩:=fU (n:=(v.ns.length:Int)) hk hp
 obtain⟨W,J⟩:=fU (n:=6) (Ms hk (min 4 i64.bits)) WF
 obtain⟨j,hj⟩:∃j,((((k).fdiv (2 ^ min 4 i64.bits))).tmod 6)=j:=⟨_,rfl⟩
 rw[hj] at W J;have g6:=qH (l:=[1,1,2,2,3,4]) W WF
 have D:∀w:fM,Flat (am w)=True:=fun w=>eq_true (.agg _ (fJ w))
 have rTA:=jF (k.tmod 9)
 rw[cG func50 rfl a2l WP rfl]
 have m:(0:Int)<((ol Q).length:Int)->¬(((ol Q).length:Int)=0):=fun h=>by omega
 obtain⟨c,G⟩:∃c,((((k).fdiv (2 ^ min 11 i64.bits))).tmod ((ol Q).length:Int))=c:=⟨_,rfl⟩
 have cb:=fun g=>G ▸ fU (n:=((ol Q).length:Int)) (Ms hk (min 11 i64.bits)) g
 have c1:=fun g=>(cb g).1
 have c2:=fun g=>(cb g).2
 have rTB:(0:Int)<((ol Q).length:Int)->Rg (gx cS (ol Q) c).tagged.tag:=fun g=>hq _ (lB (c1 g) (c2 g))
 obtain⟨rt,X⟩:∃rt,(if (0:Int)<((ol Q).length:Int) then (if 0<((((k).fdiv (2 ^ min 8 i64.bits))).tmod 8) then ((gx cS (ol Q) c).block) else ((nd v.ns (k.tmod (v.ns.length:Int))).block.root)) else ((nd v.ns (k.tmod (v.ns.length:Int))).block.root))=rt:=⟨_,rfl⟩
 by_cases g1:(0:Int)<((ol Q).length:Int)<;>by_cases g2:0<((((k).fdiv (2 ^ min 8 i64.bits))).tmod 8)<;>simp only[g1,g2,if_true,if_false] at X
 all_goals
  by_cases p0:0<=aD v.ns rt
  case neg =>
   have C:=fun st d=>oz v.ns (aD v.ns rt) (fun u=>p0 u.1) st d
   by_cases e2:((((k).fdiv (2 ^ min 14 i64.bits))).tmod 16)=0
   ·simp only[ZG,seval,rf,Mt,hj,W,J,g6,hT.Nx,h.sd.tree,S,m1,m2,qL _ _ M,g1,g2,X,m,G,c1,c2,C,bt e2,lK];exact⟨_,iI rfl qc xk qg,_,rfl,qg⟩
   ·simp only[ZG,seval,rf,Mt,hj,W,J,g6,hT.Nx,h.sd.tree,S,m1,m2,qL _ _ M,g1,g2,X,m,G,c1,c2,C,bf e2];exact⟨_,iI rfl qc xk qg,_,rfl,qg⟩
  have pr:=cB v.ns rt
  have C:=fun st d=>jk v.ns h.up M (aD v.ns rt) p0 pr.2 st d
  have pm:=uU h.up p0 pr.2
  have prg:∀x∈path v.ns (aD v.ns rt),0<=x/\x<v.ns.length:=fun x N=>xB h.up N
  have pl:=zZ h.up (aD v.ns rt)
  obtain⟨p,ep⟩:∃p,path v.ns (aD v.ns rt)=p:=⟨_,rfl⟩
  rw[ep] at C pm prg pl;have l0:(0:Int)<(p.length:Int):=qg
  have lne:¬((p.length:Int)=0):=WF
  obtain⟨x1,x2⟩:=fU (n:=(p.length:Int)) (Ms hk (min 16 i64.bits)) l0
  obtain⟨y,Y⟩:∃y,((((k).fdiv (2 ^ min 16 i64.bits))).tmod (p.length:Int))=y:=⟨_,rfl⟩
  rw[Y] at x1 x2;have gp:=qH x1 x2
  obtain⟨z1,z2⟩:=prg (it p y) (by obtain⟨h1,h2⟩:=zD x1 x2;grind)
  by_cases A:0<((((k).fdiv (2 ^ min 14 i64.bits))).tmod 4)
  all_goals
   by_cases e2:((((k).fdiv (2 ^ min 14 i64.bits))).tmod 16)=0
   ·simp only[ZG,seval,rf,Mt,hj,W,J,g6,hT.Nx,h.sd.tree,S,m1,m2,qL _ _ M,g1,g2,X,m,G,c1,c2,C,l0,lne,A,Y,x1,x2,gp,z1,z2,bt e2,lK];exact⟨_,iI rfl qc xk vq,_,rfl,qg⟩
   ·simp only[ZG,seval,rf,Mt,hj,W,J,g6,hT.Nx,h.sd.tree,S,m1,m2,qL _ _ M,g1,g2,X,m,G,c1,c2,C,l0,lne,A,Y,x1,x2,gp,z1,z2,bf e2];exact⟨_,iI rfl qc xk vq,_,rfl,qg⟩
end Go.Ab.Tryz
section
namespace Go.Ab
open Classical
def qS [Ext] {P:Program} {bi:Bool} {a b:Code} {st:St} {β:Type} {K:Ex × St->Option β} {R:β->Prop} (Q:St->Prop) (h:∃st',vN P bi a st=some (.normal,st')/\Q st')
 (rest:∀st',Q st'->∃r,cT (vN P bi b st') K=some r/\R r):∃r,cT (vN P bi (.seq a b) st) K=some r/\R r:=by
 obtain⟨s1,J,h2⟩:=h
 rw[RT,J];exact rest s1 h2
end Go.Ab
namespace Go.Ab.Tryz
open Classical Go.Proofs Go.Ab
structure BQ (n:Int) (v:SV) (b:Block):Prop extends RB b where
 rt:b.root=mkRoot n\/∃m∈v.ns,b.root=m.block.root
abbrev sT (s:aF) (n k:Int) (st:St):Prop:=st.env 1=aa n/\st.env 2=aa k/\st.env 3=.ptr 3 0 0/\st.heap 3 0=some (.cells (aB s))/\st.env 6=.ptr 6 0 0/\st.heap 6 0=some (.cells (aY gQ))
def x46 {s:aF} {v:SV} {q:Int} (h:GI s v q) (r:RG s v) (n k:Int) (R:0<=k):∃x,aA prog 46 [bc s,aa n,aa k]=some x/\∃b:Block,x=ah b/\BQ n v b:=by
 have hn:=h.sd.nn
 have hp:(0:Int)<(v.ns.length:Int):=iz
 have S:¬((v.ns.length:Int)=0):=WF
 have C:=h.sp
 have m:Rg s.now:=⟨r.now.1,iw⟩
 have rnd:∀p:Int,0<=p->p<v.ns.length->RB (nd v.ns p).block:=fun p h0 h1=>(r.nd _ (zB h0 h1)).1
 obtain⟨m1,m2⟩:=fU (n:=(v.ns.length:Int)) R hp
 obtain⟨m3,m4⟩:=fU (n:=(v.ns.length:Int)) (Ms R (min 3 i64.bits)) hp
 rw[cG func46 rfl a2m WP rfl]
 refine qS (fun st=>st.aJ 8=0/\st.aJ 9=0/\st.aJ 11=0/\sT s n k st) ?h0 ?r0
 case h0 =>
  refine⟨?s1, ?h1, ?q1⟩
  case h1 =>
   simp only[ZG,seval,tS];rfl
  case q1=>exact qz
 case r0 =>
 intro st D;refine qS (fun st=>∃p:Int,(st.aJ 8=0/\st.aJ 9=0/\st.aJ 11=0/\sT s n k st/\st.env 7=aa p)/\0<=p/\p<v.ns.length) ?h1 ?r1
 case h1 =>
  refine⟨?s2, ?h2, ?q2⟩
  case h2 =>
   simp only[ZG,seval,tS,D,h.sd.tree,S];rfl
  case q2=>exact⟨_,UV,m1,m2⟩
 case r1 =>
 rintro st ⟨p,D,p0,p1⟩
 refine qS (fun st=>∃p:Int,(st.aJ 8=0/\st.aJ 9=0/\st.aJ 11=0/\sT s n k st/\st.env 7=aa p)/\0<=p/\p<v.ns.length) ?h2 ?r2
 case h2 =>
  by_cases g:0<((((k).fdiv (2 ^ min 6 i64.bits))).tmod 3)
  ·obtain⟨M,l⟩:∃M,(if (v.ns.length:Int)<3 then (v.ns.length:Int) else 3)=M:=⟨_,rfl⟩
   have hM1:1<=M/\M<=v.ns.length:=WF
   have hM0:¬M=0:=WF
   obtain⟨x0,x1⟩:=fU (n:=M) p0 WF
   have u:i64.wrap ((v.ns.length:Int)-1)=(v.ns.length:Int)-1:=Dz _ WF WF
   have X:i64.wrap ((v.ns.length:Int)-1-p.tmod M)=(v.ns.length:Int)-1-p.tmod M:=Dz _ WF WF
   refine⟨?s3, ?h3, ?q3⟩
   case h3 =>
    simp only[ZG,seval,tS,D,h.sd.tree,g,l,hM0,u,X];rfl
   case q3=>exact⟨(v.ns.length:Int)-1-p.tmod M,UV,WF,WF⟩
  ·skip
   refine⟨?s4, ?h4, ?q4⟩
   case h4 =>
    simp only[ZG,seval,tS,D,g];rfl
   case q4=>exact⟨p,UV,p0,p1⟩
 case r2 =>
 clear D p0 p1
 clear p
 rintro st ⟨p,D,p0,p1⟩
 have N:=rnd p p0 p1
 refine qS (fun st=>st.aJ 9=0/\st.aJ 11=0/\sT s n k st/\st.env 7=aa p/\st.env 8=.ptr 8 0 0/\st.heap 8 0=some (.cells (gC (nd v.ns p)))) ?h4 ?r4
 case h4 =>
  refine⟨?s5, ?h5, ?q5⟩
  case h5 =>
   simp only[ZG,seval,tS,D,h.sd.tree,p0,p1];rfl
  case q5=>exact UV
 case r4 =>
 clear D
 intro st D;refine qS (fun st=>∃b:Block,(st.aJ 11=0/\sT s n k st/\st.env 7=aa p/\st.env 8=.ptr 8 0 0/\st.heap 8 0=some (.cells (gC (nd v.ns p)))/\st.env 9=.ptr 9 0 0/\st.heap 9 0=some (.cells (aY b)))/\BQ n v b) ?h5 ?r5
 case h5 =>
  refine⟨?s6, ?h6, ?q6⟩
  case h6 =>
   simp only[ZG,seval,tS,D,lK];rfl
  case q6=>exact⟨_,UV,by exact⟨⟨m,N.j,N.f,N.pj,N.pf⟩,.inl rfl⟩⟩
 case r5 =>
 clear D
 rintro st ⟨b,D,rb⟩
 refine qS (fun st=>∃b:Block,(st.aJ 11=0/\sT s n k st/\st.env 7=aa p/\st.env 8=.ptr 8 0 0/\st.heap 8 0=some (.cells (gC (nd v.ns p)))/\st.env 9=.ptr 9 0 0/\st.heap 9 0=some (.cells (aY b)))/\BQ n v b) ?h6 ?r6
 case h6 =>
  by_cases g:((((k).fdiv (2 ^ min 10 i64.bits))).tmod 5)=0
  case neg =>
   refine⟨?s7, ?h7, ?q7⟩
   case h7 =>
    simp only[ZG,seval,tS,D,bf g];rfl
   case q7=>exact⟨b,UV,rb⟩
  by_cases g2:0<s.now
  case neg =>
   refine⟨?s8, ?h8, ?q8⟩
   case h8 =>
    simp only[ZG,seval,tS,D,bt g,g2];rfl
   case q8=>exact⟨b,UV,rb⟩
  refine⟨?s9, ?h9, ?q9⟩
  case h9 =>
   simp only[ZG,seval,tS,D,bt g,g2];rfl
  case q9=>exact⟨_,UV,QbZ⟩
 case r6 =>
 clear D rb
 clear b
 rintro st ⟨b,D,rb⟩
 refine qS (fun st=>∃b:Block,(st.aJ 11=0/\sT s n k st/\st.env 7=aa p/\st.env 8=.ptr 8 0 0/\st.heap 8 0=some (.cells (gC (nd v.ns p)))/\st.env 9=.ptr 9 0 0/\st.heap 9 0=some (.cells (aY b)))/\BQ n v b) ?h8 ?r8
 case h8 =>
  by_cases g:((((k).fdiv (2 ^ min 12 i64.bits))).tmod 16)=0
  case neg =>
   refine⟨?s10, ?h10, ?q10⟩
   case h10 =>
    simp only[ZG,seval,tS,D,bf g];rfl
   case q10=>exact⟨b,UV,rb⟩
  refine⟨?s11, ?h11, ?q11⟩
  case h11 =>
   simp only[ZG,seval,tS,D,bt g,lK];rfl
  case q11=>exact⟨_,UV,wi⟩
 case r8 =>
 clear D rb
 clear b
 rintro st ⟨b,D,rb⟩
 refine qS (fun st=>∃e:Int,(st.aJ 11=0/\sT s n k st/\st.env 7=aa p/\st.env 8=.ptr 8 0 0/\st.heap 8 0=some (.cells (gC (nd v.ns p)))/\st.env 9=.ptr 9 0 0/\st.heap 9 0=some (.cells (aY b))/\st.env 10=ac e)/\Rg e) ?h10 ?r10
 case h10 =>
  refine⟨?s12, ?h12, ?q12⟩
  case h12 =>
   simp only[ZG,seval,tS,D,C];rfl
  case q12=>exact⟨_,UV,jF _⟩
 case r10 =>
 clear D
 rintro st ⟨e,D,re⟩
 obtain⟨y,Y,c,rfl,rc⟩:=x86 h r p e re
 have A:=kx Y (jC h.sd.flat (.v _) (.v _)) (.agg _ (cM _))
 refine qS (fun st=>∃b:Block,(sT s n k st/\st.env 7=aa p/\st.env 8=.ptr 8 0 0/\st.heap 8 0=some (.cells (gC (nd v.ns p)))/\st.env 9=.ptr 9 0 0/\st.heap 9 0=some (.cells (aY b))/\st.env 10=ac e)/\BQ n v b) ?h11 ?r11
 case h11 =>
  by_cases g:b.dA.pj.aG<c.aG
  case neg =>
   refine⟨?s13, ?h13, ?q13⟩
   case h13 =>
    simp only[ZG,seval,tS,D,A,g];rfl
   case q13=>exact⟨b,UV,rb⟩
  by_cases g2:((((k).fdiv (2 ^ min 13 i64.bits))).tmod 2)=0
  case neg =>
   refine⟨?s14, ?h14, ?q14⟩
   case h14 =>
    simp only[ZG,seval,tS,D,A,g,bf g2];rfl
   case q14=>exact⟨b,UV,rb⟩
  by_cases g3:((((k).fdiv (2 ^ min 14 i64.bits))).tmod 2)=0
  case neg =>
   refine⟨?s15, ?CC, ?q15⟩
   case CC =>
    simp only[ZG,seval,tS,D,A,g,bt g2,bf g3];rfl
   case q15=>exact⟨_,UV,by exact⟨⟨rb.sl,rb.j,rb.f,rc,rb.pf⟩,rb.rt⟩⟩
  refine⟨?s16, ?S6, ?q16⟩
  case S6 =>
   simp only[ZG,seval,tS,D,A,g,bt g2,bt g3];rfl
  case q16=>exact⟨_,UV,by exact⟨⟨rb.sl,rb.j,rb.f,rc,rb.pj⟩,rb.rt⟩⟩
 case r11 =>
 clear D rb
 clear b
 rintro st ⟨b,D,rb⟩
 refine qS (fun st=>∃b:Block,(sT s n k st/\st.env 7=aa p/\st.env 8=.ptr 8 0 0/\st.heap 8 0=some (.cells (gC (nd v.ns p)))/\st.env 9=.ptr 9 0 0/\st.heap 9 0=some (.cells (aY b))/\st.env 10=ac e)/\BQ n v b) ?S6 ?r16
 case S6 =>
  by_cases g:((((k).fdiv (2 ^ min 15 i64.bits))).tmod 3)=0
  case neg =>
   refine⟨?s17, ?h17, ?q17⟩
   case h17 =>
    simp only[ZG,seval,tS,D,bf g];rfl
   case q17=>exact⟨b,UV,rb⟩
  by_cases g2:u64.wrap ((nd v.ns p).block.slot.tdiv s.cFg.iH)<e
  case neg =>
   refine⟨?s18, ?h18, ?q18⟩
   case h18 =>
    simp only[ZG,seval,tS,D,bt g,C,g2];rfl
   case q18=>exact⟨b,UV,rb⟩
  refine⟨?s19, ?h19, ?q19⟩
  case h19 =>
   simp only[ZG,seval,tS,D,bt g,C,g2];rfl
  case q19=>exact⟨_,UV,by exact⟨⟨rb.sl,N.pj,N.pf,rb.pj,rb.pf⟩,rb.rt⟩⟩
 case r16 =>
 clear D rb
 clear b
 rintro st ⟨b,D,rb⟩
 refine qS (fun st=>∃b:Block,(sT s n k st/\st.env 7=aa p/\st.env 8=.ptr 8 0 0/\st.heap 8 0=some (.cells (gC (nd v.ns p)))/\st.env 9=.ptr 9 0 0/\st.heap 9 0=some (.cells (aY b))/\st.env 10=ac e)/\BQ n v b) ?h18 ?r18
 case h18 =>
  by_cases g:(nd v.ns p).block.eQ=bQ
  case neg =>
   refine⟨?s20, ?h20, ?q20⟩
   case h20 =>
    simp only[ZG,seval,tS,D,g,lK,Br,Nat.reduceLT];rfl
   case q20=>exact⟨_,UV,wi⟩
  by_cases g2:((((k).fdiv (2 ^ min 16 i64.bits))).tmod 3)=0
  case neg =>
   refine⟨?s21, ?S7, ?q21⟩
   case S7 =>
    simp only[ZG,seval,tS,D,g,bf g2];rfl
   case q21=>exact⟨b,UV,rb⟩
  refine⟨?s22, ?h22, ?q22⟩
  case h22 =>
   simp only[ZG,seval,tS,D,g,bt g2,lK,Br,Nat.reduceLT];rfl
  case q22=>exact⟨_,UV,wi⟩
 case r18 =>
 clear D rb
 clear b
 rintro st ⟨b,D,rb⟩
 obtain⟨w0,hw0,W,rfl⟩:=x87 ((k).fdiv (2 ^ min 3 i64.bits))
 have k87:=kx hw0 (bZ (.v _)) (.agg _ (gM W))
 refine qS (fun st=>∃b:Block,(sT s n k st/\st.env 7=aa p/\st.env 8=.ptr 8 0 0/\st.heap 8 0=some (.cells (gC (nd v.ns p)))/\st.env 9=.ptr 9 0 0/\st.heap 9 0=some (.cells (aY b))/\st.env 10=ac e)/\BQ n v b) ?S7 ?r21
 case S7 =>
  by_cases c0:((((k).fdiv (2 ^ min 18 i64.bits))).tmod 24)=0
  ·skip
   refine⟨?s23, ?h23, ?q23⟩
   case h23 =>
    simp only[ZG,seval,tS,D,bt c0,lK];rfl
   case q23=>exact⟨_,UV,wi⟩
  by_cases c1:((((k).fdiv (2 ^ min 18 i64.bits))).tmod 24)=1
  ·skip
   refine⟨?s24, ?h24, ?q24⟩
   case h24 =>
    simp only[ZG,seval,tS,D,bf c0,bt c1,k87];rfl
   case q24=>exact⟨_,UV,wi⟩
  by_cases c2:((((k).fdiv (2 ^ min 18 i64.bits))).tmod 24)=2
  ·skip
   refine⟨?s25, ?h25, ?q50⟩
   case h25 =>
    simp only[ZG,seval,tS,D,bf c0,bf c1,bt c2,k87];rfl
   case q50=>exact⟨_,UV,wi⟩
  by_cases c3:((((k).fdiv (2 ^ min 18 i64.bits))).tmod 24)=3
  ·skip
   refine⟨?s26, ?h26, ?q153⟩
   case h26 =>
    simp only[ZG,seval,tS,D,bf c0,bf c1,bf c2,bt c3];rfl
   case q153=>exact⟨_,UV,by exact⟨⟨rb.sl,rb.j,rb.f,jF _,rb.pf⟩,rb.rt⟩⟩
  by_cases J:((((k).fdiv (2 ^ min 18 i64.bits))).tmod 24)=4
  ·skip
   refine⟨?s27, ?h27, ?q266⟩
   case h27 =>
    simp only[ZG,seval,tS,D,bf c0,bf c1,bf c2,bf c3,bt J];rfl
   case q266=>exact⟨_,UV,QbZ⟩
  by_cases c5:((((k).fdiv (2 ^ min 18 i64.bits))).tmod 24)=5
  ·skip
   refine⟨?s28, ?h28, ?q20⟩
   case h28 =>
    simp only[ZG,seval,tS,D,bf c0,bf c1,bf c2,bf c3,bf J,bt c5,h.sd.tree,S,m3,m4];rfl
   case q20=>exact⟨_,UV,by exact⟨⟨rb.sl,rb.j,rb.f,rb.pj,rb.pf⟩,.inr ⟨_,zB m3 m4,rfl⟩⟩⟩
  by_cases c6:((((k).fdiv (2 ^ min 18 i64.bits))).tmod 24)=6
  ·skip
   refine⟨?s29, ?h29, ?q29⟩
   case h29 =>
    simp only[ZG,seval,tS,D,bf c0,bf c1,bf c2,bf c3,bf J,bf c5,bt c6,lK];rfl
   case q29=>exact⟨_,UV,wi⟩
  by_cases G:((((k).fdiv (2 ^ min 18 i64.bits))).tmod 24)=7
  ·skip
   refine⟨?s30, ?h30, ?q23⟩
   case h30 =>
    simp only[ZG,seval,tS,D,bf c0,bf c1,bf c2,bf c3,bf J,bf c5,bf c6,bt G];rfl
   case q23=>exact⟨_,UV,wi⟩
  refine⟨?s31, ?h31, ?q72⟩
  case h31 =>
   simp only[ZG,seval,tS,D,bf c0,bf c1,bf c2,bf c3,bf J,bf c5,bf c6,bf G];rfl
  case q72=>exact⟨b,UV,rb⟩
 case r21 =>
 clear D rb
 clear b
 rintro st ⟨b,D,rb⟩
 simp only[ZG,seval,tS,D];exact⟨_,iI rfl qc xk QbT,b,rfl,rb⟩
end Go.Ab.Tryz
end
namespace Go.Ab.Tryz
open Classical Go.Proofs Go.Ab
variable {s:aF} {v:SV} {q:Int} {b:Block} {O:List Block} {m g T:Nat} {st:St} {call:Nat->List AV->Option AV} {inl:Nat->List AV->St->Option (AV × St)} {ops:Array Oper} {pos:String} {aft:Array Edge} {t:State} {Q R:Option (List Request)}
def Jb (st st':St):Prop:=(∀s g,g<st.aJ s->st'.heap s g=st.heap s g)/\∀s,st.aJ s<=st'.aJ s
def a2q:aP 0 3 2/\aP 1 17 6/\aP 2 2 21:=⟨rfl,rfl,rfl⟩
def aFU (hs:SD s v) (X:AV) (a:qX) (V:Option (List Int)) (Y:a.dL=ov aH V) (hV:bg (ol V).length) (hr:∀x∈ol V,0<=x/\x<(ol v.L).length) :
 ∃G:St->St,∀st,oX prog 255 [bc (nI s X),au a] st=some (bc (nI (Ec s v a (ol V)) X),G st)/\Jb st (G st):=by
 have one:∀st,∃st',oX prog 255 [bc (nI s X),au a] st=some (bc (nI (Ec s v a (ol V)) X),st')/\Jb st st':=by
  intro st;have W:(nI s X).dI.cJ=ov dF v.L:=hs.cJ
  rw[Aj prog func255 rfl WP]
  simp only[ZG,seval,a2q,W,Y,aTL v.L hs.nL _ _ V hV hr,bW];refine⟨_,Kk (P:=prog) (fn:=Tryz.f255) (r:=.cell 4 52) (x:=bc (nI (Ec s v a (ol V)) X)) (.inl rfl) rfl ?h1, ?h2⟩
  case h1 =>
   rw[pF];simp only[bC,Z8,seval];grind [nI,Ec,ov,Wf]
  case h2 =>
   refine⟨fun x g hg=>?_,fun x=>?_⟩
   ·have N:(x=2/\g=st.aJ 2)=False:=eq_false qg
    have l:(x=3/\g=st.aJ 3)=False:=eq_false qg
    have C:(x=4/\g=st.aJ 4)=False:=eq_false qg
    simp only[E8,seval,aN,aV,N,l,C,if_false]
   ·simp only[E8,seval,aN,aV];grind
 exact⟨fun st=>Classical.choose (one st),fun st=>Classical.choose_spec (one st)⟩
def OW {cs:List AV} (h:∀c∈cs,Flat c):cs.flatMap gP=[]:=flatMap_eq_nil_iff.2 fun c G=>by have:=h c G;cases this<;>rfl
theorem aU9 {c:AV} (h:Flat c):gP c=[]:=je
theorem aFV (h:SD s v) (a g:Nat):jB (bc (lI s (.own a g)))=[(a,g)]:=by
 obtain⟨J,h2,S,h4,h5,r,h7⟩:=h.fl
 show (aB (lI s (.own a g))).flatMap gP=[(a,g)]
 unfold lI aB kY;simp only[flatMap_append,flatMap_cons,flatMap_nil,append_nil];rw[OW (vS _ J),OW (rQ _ h2 S),OW (kL _),OW (yD _ r),OW (eA _),OW (dR _)];grind [gP,aU9]
def aJY (h:SD s v) (a g:Nat):ox (bc (lI s (.own a g))):=by
 obtain⟨h1,h2,h3,h4,h5,h6,h7⟩:=h.fl
 refine .inr (.inr ⟨_,rfl,fun c hc=>?_⟩)
 grind [lI,aB,kY,vS,rQ,kL,yD,eA,dR]
def aVa (h:GI s v q) (hb:sW s v b=0) (st:St) (d:Option Nat):eH (aA prog) 260 [bc s,ah b] st d=some { dst:=d,val:=bc (tR s v b)}:=Kf (aU h.sd.flat (lF b)) (aTN h hb) (h.ins hb).sd.flat
def aVb (h0:SD s v) (h:GI (lI s (ov aK (some O))) { v with O:=some O } q) (hb:sW (lI s (ov aK (some O))) { v with O:=some O } b=0) (a g:Nat) (st:St) (d:Option Nat) (u:st.heap a g=some (.row 66 238 O.length (aK O))) :
 eH (aA prog) 260 [bc (lI s (.own a g)),ah b] st d=some { dst:=d,val:=bc (tR (lI s (ov aK (some O))) { v with O:=some O } b),dE:=some (a,g,none)}:=by
 rw[Hi (s:=a) (k:=g) (by grind [aFV,sJ,lF]) (by intro x N;simp only[mem_cons,not_mem_nil,or_false] at N;rcases N with rfl|rfl;exact aJY h0 a g;exact .inl (lF b)),
  map_cons,map_cons,map_nil,yL h0 st u,Qb,aM,aM,dB]
 exact YU (aTN h hb) (h.ins hb).sd.flat
def aVc (h0:SD s v) (h:GI (lI s (ov aK (some O))) { v with O:=some O } q) (b:Block) (a g:Nat) (st:St) (d:Option Nat) (u:st.heap a g=some (.row 66 238 O.length (aK O))) :
 aO (aA prog) 259 [bc (lI s (.own a g)),ah b] st d=some { dst:=d,val:=aa (sW (lI s (ov aK (some O))) { v with O:=some O } b)}:=by
 rw[dZ,map_cons,map_cons,map_nil,yL h0 st u,Qb,aM,aM,dB];exact zP (aTz h.sd h.up h.sp b)
def aVd (h0:SD s v) (h:GI (lI s (ov aK (some O))) { v with O:=some O } q) (a g:Nat) (st:St) (d:Option Nat) (u:st.heap a g=some (.row 66 238 O.length (aK O))) :
 aO (aA prog) 261 [bc (lI s (.own a g))] st d=some { dst:=d,val:=aa (Fj { v with O:=some O })}:=by
 rw[dZ,map_cons,map_nil,yL h0 st u,aM,dB];exact zP (aTI h.sd)
def wH (h:SD s v):lI s (ov aK v.O)=s:=by unfold lI;rw[<- h.bL]
def iP:Code->Code
 | .loop b=>.loop b
 | .seq a b=>match iP a with
   | .skip=>iP b
   | c=>c
 | .cond _ a b=>match iP a with
   | .skip=>iP b
   | c=>c
 | .block _ b=>iP b
 | _=>.skip
def Dm:Code:=iP (Tryz.f178.body.getD .skip)
def aJZ (h:Fj v<0):OP v:=fun o ho=>by
 unfold Fj at h;rcases lA (fun k=>0<=aD v.ns (gx gQ (ol v.O) k).parent) (ol v.O).length with ⟨_,hj⟩|⟨k,_,_,_,e⟩
 all_goals grind [getElem_of_mem,gx]
def aVe (s:aF) (v:SV) (q:Int) (m:Nat) (st:St):Prop:=∃(A:aF) (w:SV) (X:AV) (R:List bU) (a g:Nat),((st).env 2=.ptr 2 0 0/\(st).heap 2 0=some (.cells (aB (lI A X)))/\(st).env 4=.ptr 4 0 0/\(st).heap 4 0=some (.cells (aB eU))/\(st).env 9=.own a g/\(st).heap a g=some (.row 29 32 R.length (fN R))/\(st).env 10=aa (Fj w))/\((a=66/\g=0)\/(a=105/\g<st.aJ 105))/\(X=ov aK w.O\/∃g' L,w.O=some L/\X=.own 91 g'/\g'<st.aJ 91/\st.heap 91 g'=some (.row 66 238 L.length (aK L)))/\GI A w q/\RG0 A w/\A.cFg=s.cFg/\R.length+(ol w.O).length<=1+(ol v.O).length/\m=(ol w.O).length
def S8 (s:aF) (v:SV) (q:Int) (e:Ex) (st:St):Prop:=e=.exit 0/\∃(A:aF) (w:SV) (X:AV) (R:List bU) (a g:Nat),(st.env 2=.ptr 2 0 0/\st.heap 2 0=some (.cells (aB (lI A X)))/\st.env 4=.ptr 4 0 0/\st.heap 4 0=some (.cells (aB eU))/\st.env 9=.own a g/\st.heap a g=some (.row 29 32 R.length (fN R)))/\a≠4/\(X=ov aK w.O\/∃g' L,w.O=some L/\X=.own 91 g'/\st.heap 91 g'=some (.row 66 238 L.length (aK L)))/\GI A w q/\RG A w/\A.cFg=s.cFg/\R.length<=1+(ol v.O).length
def RU (nb:((ol v.O).length:Int)<=64) (hs:aVe s v q m st):∃e st',wP prog Dm st=some (e,st')/\S8 s v q e st':=by
 have key:∃r,cT (wP prog Dm st) some=some r/\S8 s v q r.1 r.2:=by
  unfold Dm;simp only[Tryz.f178,Option.getD_some,iP];refine bP (aVe s v q) (S8 s v q) m ?step ?start ?rest
  case start=>exact hs
  case rest=>exact fun e st h=>⟨_,rfl,h⟩
  case step =>
   clear hs
   rintro m st ⟨S0,w,X,R,a,g,D,KX,hX,p,l,W,hR,hm⟩
   have hlO:=p.nO
   have hlB:=p.AH
   have vO:(a=105/\g=st.aJ 105)=False:=eq_false WF
   have han:∀n:Nat,(n=66)=False->(n=105)=False->(a=n)=False:=fun n J h2=>eq_false qg
   have ZE:∀n:Nat,(n=66)=False->(n=105)=False->(n=a)=False:=fun n J h2=>eq_false qg
   by_cases A:0<=Fj w
   case neg =>
    have hI':=D
    have hX':X=ov aK w.O\/∃g' L,w.O=some L/\X=.own 91 g'/\st.heap 91 g'=some (.row 66 238 L.length (aK L)):=hX.imp id fun ⟨g',L,J,h2,_,h4⟩=>⟨g',L,J,h2,h4⟩
    apply oT (.exit 0)
    ·simp only[Z8,seval,D,A];rfl
    ·exact⟨rfl,S0,w,X,R,a,g,XC,WF,Qa8,p,⟨l,aJZ WF⟩,W,WF⟩
   obtain⟨k,hk,hkp,hkw⟩:∃k:Nat,k<(ol w.O).length/\0<=aD w.ns (gx gQ (ol w.O) k).parent/\Fj w=k:=by
    rcases lA (fun k=>0<=aD w.ns (gx gQ (ol w.O) k).parent) (ol w.O).length with ⟨e,_⟩|⟨k,J,h2,_,h3⟩
    all_goals grind [Fj]
   rw[hkw] at D A;have q0:(0:Int)<=k:=WF
   have S:(k:Int)<((ol w.O).length:Int):=WF
   have q2:(k:Int)<=((ol w.O).length:Int):=WF
   have q3:(0:Int)<=((k+1:Nat):Int):=WF
   have q4:((k+1:Nat):Int)<=((ol w.O).length:Int):=WF
   have hw := (yY k).2
   obtain⟨bb,Pn⟩:∃bb,gx gQ (ol w.O) (k:Int)=bb:=⟨_,rfl⟩
   have n1:bg (((ol w.O).take k).length:Nat):=qg
   have n2:bg (((ol w.O).drop (k+1)).length:Nat):=qg
   obtain⟨Y,hLL⟩:∃Y,(ol w.O).take k++(ol w.O).drop (k+1)=Y:=⟨_,rfl⟩
   have nl:Y.length+1=(ol w.O).length:=qg
   have hmem:∀b∈Y,b∈ol w.O:=fun b hb=>by grind
   have nR:bg R.length:=WF
   have hbm:bb∈ol w.O:=by rw[<- Pn];exact lB q0 S
   have e1:ol (w.O.map (·.take k))=(ol w.O).take k:=by cases w.O<;>simp[ol]
   have M:ol (w.O.map (·.drop (k+1)))=(ol w.O).drop (k+1):=by cases w.O<;>simp[ol]
   rcases hX with rfl|⟨g',L,C,rfl,hg1,hg2⟩
   case' inl=>have H:=And.intro e1 M
   case' inr =>
    have eL:ol w.O=L:=dw
    have hg3:(g'=st.aJ 91)=False:=eq_false WF
    obtain⟨X1,hX1,hX1'⟩:=aOt (L:=L) (k:=k) (by rw[<- eL];omega) 91 g'
    obtain⟨X2,hX2,hX2'⟩:=aFn (L:=L) (k:=k+1) (by rw[<- eL];omega) 91 g'
    have q1':(k:Int)<(L.length:Int):=by rw[<- eL];omega
    have ldb:=EW (T:=66) (n:=L.length) (k:=238) q0 q1' pq ZB ZB
    simp only[Int.toNat_natCast] at ldb;subst eL;have H:=And.intro hg2 (And.intro hg3 (And.intro hX1 (And.intro hX1' (And.intro hX2 (And.intro hX2' (And.intro q1' ldb))))))
   all_goals
    by_cases hz:Y=[]
    ·have hT:((ol w.O).take k).length=0:=by have:=congrArg List.length hLL;rw[hz,length_append] at this;simp only[length_nil] at this;omega
     have hD:((ol w.O).drop (k+1)).length=0:=qg
     have KY:(ol w.O).length=1:=qg
     have RV:=p.Sp none (by show ((0:Nat):Int)<=_;omega)
     have RW:RG0 (lI S0 (ov aK none)) { w with O:=none }:=l.Sp none (ov aK none) (nil_sublist _)
     have ZF:∀(st:St) (d:Option Nat),aO (aA prog) 259 [bc (lI S0 af),ah bb] st d=_:=aTB RV.sd RV.up RV.sp bb
     have aBp:∀(st:St) (d:Option Nat),aO (aA prog) 261 [bc (lI S0 af)] st d=_:=P9 RV.sd
     have hO2:(ol (sH (lI S0 (ov aK none)) { w with O:=none } bb).O).length<=0:=Q4 _ _ _
     obtain⟨c,G⟩:∃c,sW (lI S0 (ov aK none)) { w with O:=none } bb=c:=⟨_,rfl⟩
     rw[G] at ZF;by_cases yX:c=0
     ·rw[yX] at G;have ZH:=RV.ins G
      have ZI:=RW.ins RV (l.or bb hbm) G
      have hC2:=(Kc (lI S0 (ov aK none)) { w with O:=none } bb).1
      have e260y:=fun st d=>aVa RV G st d
      have Fu:=P9 ZH.sd
      obtain⟨u,hS2⟩:∃u,tR (lI S0 (ov aK none)) { w with O:=none } bb=u:=⟨_,rfl⟩
      rw[hS2] at ZH ZI Fu hC2
      simp only[hS2] at e260y;have e260z:∀(st:St) (d:Option Nat),eH (aA prog) 260 [bc (lI S0 af),ah bb] st d=_:=e260y
      have OX:=wH ZH.sd
      simp only[lI] at ZF aBp e260z D;refine Bp (st':=?_) ?_ ((ol (sH (lI S0 (ov aK none)) { w with O:=none } bb).O).length) WF ?_
      rotate_left
      ·simp only[Z8,seval,D,vO,han,ZE,A,q0,S,q2,q3,q4,hw,Pn,Int.toNat_natCast,Hl,Hm,Fm,Option.isSome_some,cR,cQ,H,hT,hD,ZF,aBp,bt yX,e260z,Fu,Sy _ _ _ _ nR];rfl
      ·refine⟨u,sH (lI S0 (ov aK none)) { w with O:=none } bb,_,R++[bb.root],105,st.aJ 105, ?_,.inr ⟨rfl,Yo⟩,.inl rfl,ZH,ZI,hC2.trans W, ?_,rfl⟩
       ·rw[OX];simp only[E8,seval,D,vO,han,ZE]<;>rfl
       grind
     ·simp only[lI] at ZF aBp D;refine Bp (st':=?_) ?_ 0 WF ?_
      rotate_left
      ·simp only[Z8,seval,D,vO,han,ZE,A,q0,S,q2,q3,q4,hw,Pn,Int.toNat_natCast,Hl,Hm,Fm,Option.isSome_some,cR,cQ,H,hT,hD,ZF,aBp,bf yX];rfl
      ·refine⟨(lI S0 (ov aK none)),{ w with O:=none },ov aK none,R,a,g, ?_,Yo,.inl rfl,RV,RW,W,by show R.length+0<=_;omega,rfl⟩
       simp only[E8,seval,D,vO,han,ZE]<;>rfl
    have hLn:(Y.length=0)=False:=eq_false fun h=>hz (length_eq_zero_iff.1 h)
    have RV:=p.Sp (some Y) (by show ((Y.length:Nat):Int)<=_;omega)
    have EZ:=aVc p.sd RV bb 91
    have RX:=aVd p.sd RV 91
    have hO2:(ol (sH (lI S0 (ov aK (some Y))) { w with O:=some Y } bb).O).length<=Y.length:=Q4 _ _ _
    obtain⟨c,G⟩:∃c,sW (lI S0 (ov aK (some Y))) { w with O:=some Y } bb=c:=⟨_,rfl⟩
    rw[G] at EZ
    have RW:=l.Sp (some Y) (ov aK (some Y)) (by show Y.Sublist _;rw[<- hLL,<- eraseIdx_eq_take_drop_succ];grind)
    have n3:bg (Y.length:Nat):=WF
    by_cases pX:k=0
    case' pos=>have K:=And.intro (show ((ol w.O).take k).length=0 by rw[pX];rfl) (And.intro (show (ol w.O).drop (k+1)=Y by rw[<- hLL,pX];rfl) (Mu _ n3))
    case' neg=>have K:=And.intro (show (((ol w.O).take k).length=0)=False from eq_false Qcj) (And.intro hLL (And.intro (Mu _ n1) fun s g=>OY _ _ s g n1 n2))
    all_goals
     by_cases yX:c=0
     ·rw[yX] at G;have ZH:=RV.ins G
      have ZI:=RW.ins RV (l.or bb hbm) G
      have hC2:=(Kc (lI S0 (ov aK (some Y))) { w with O:=some Y } bb).1
      have S9:=aVb p.sd RV G 91
      have Fu:=P9 ZH.sd
      obtain⟨u,hS2⟩:∃u,tR (lI S0 (ov aK (some Y))) { w with O:=some Y } bb=u:=⟨_,rfl⟩
      rw[hS2] at S9 ZH ZI Fu hC2
      have OX:=wH ZH.sd
      simp only[lI] at EZ RX S9 D
      refine Bp (st':=?_) ?_ ((ol (sH (lI S0 (ov aK (some Y))) { w with O:=some Y } bb).O).length) WF ?_
      rotate_left
      ·simp only[Z8,seval,D,vO,han,ZE,A,q0,S,q2,q3,q4,hw,Pn,Int.toNat_natCast,Hl,Hm,Fm,Option.isSome_some,cR,cQ,H,hLn,K,EZ,RX,bt yX,S9,Fu,Sy _ _ _ _ nR];rfl
      ·refine⟨u,sH (lI S0 (ov aK (some Y))) { w with O:=some Y } bb,_,R++[bb.root],105,st.aJ 105, ?_,.inr ⟨rfl,Yo⟩,.inl rfl,ZH,ZI,hC2.trans W, ?_,rfl⟩
       ·rw[OX];simp only[E8,seval,D,vO,han,ZE]<;>rfl
       grind
     ·simp only[lI] at EZ RX D
      refine Bp (st':=?_) ?_ (Y.length) WF ?_
      rotate_left
      ·simp only[Z8,seval,D,vO,han,ZE,A,q0,S,q2,q3,q4,hw,Pn,Int.toNat_natCast,Hl,Hm,Fm,Option.isSome_some,cR,cQ,H,hLn,K,EZ,RX,bf yX];rfl
      ·refine⟨(lI S0 (ov aK (some Y))),{ w with O:=some Y },_,R,a,g, ?_,Yo,.inr ⟨st.aJ 91,_,rfl,rfl,Yo,Wl⟩,RV,RW,W,by show R.length+Y.length<=_;omega,rfl⟩
       simp only[E8,seval,D,vO,han,ZE]<;>rfl
 obtain⟨r,h,hq⟩:=key
 cases N:wP prog Dm st with
 | none=>rw[N] at h;cases h
 | some y=>grind [cC]
def ZJ (h:1<=s.cFg.iH) {x y:Int} (N:0<=x) (D:x<=y) (Y:y<18446744073709551616):pY s x<=pY s y:=by
 have e:∀z:Int,0<=z->z<18446744073709551616->pY s z=z / s.cFg.iH:=fun z h0 h1=>by
  unfold pY;rw[Int.tdiv_eq_ediv_of_nonneg h0];have:=Int.ediv_le_self s.cFg.iH h0
  grind [wrap_u64,Int.ediv_nonneg]
 rw[e x N WF,e y WF Y]
 exact Int.ediv_le_ediv WF D
def aJ2 {acc:Bool × dH × dH} {n:Node} (h1:Rg acc.2.1.aG) (h2:Rg acc.2.2.aG) (hn:RB n.block):Rg (QZ acc n).2.1.aG/\Rg (QZ acc n).2.2.aG:=by
 grind [QZ,RB.pj,RB.pf]
def aBq {ns:List Node} (h:∀n∈ns,RB n.block):Rg (tP ns).pj.aG/\Rg (tP ns).pf.aG:=by
 have key:∀(l:List Node) (acc:Bool × dH × dH),(∀n∈l,RB n.block)->Rg acc.2.1.aG->Rg acc.2.2.aG->Rg (l.foldl QZ acc).2.1.aG/\Rg (l.foldl QZ acc).2.2.aG:=by
  intro l;induction l with
  | nil=>grind
  | cons n l S =>
    intro acc W J h2;have hs:=aJ2 J h2 (W n (mem_cons_self ..))
    exact S _ (fun x N=>W x (mem_cons_of_mem _ N)) hs.1 hs.2
 exact key ns _ h ⟨v9,by show (0:Int)<_;omega⟩ ⟨v9,by show (0:Int)<_;omega⟩
def Mv (s:aF) (X:AV):(nI s X).now=s.now:=rfl
def Ba (s:aF) (X:AV):(nI s X).bH.early=X:=rfl
def FB (h:SD s v) {L:List qX} (C:∀x∈L,Flat x.dL) (st:St) {g:Nat} (u:st.heap 61 g=some (.row 68 67 L.length (cN L))):eE st (bc (nI s (.own 61 g)))=some (bc (nI s (ov cN (some L)))):=by
 have p:=h.fl
 have N:=RY L.length L C
 unfold nI;simp only[dC,fV,eG,u,N,bY,sB,p,cC];rfl
def aNn (x:Array Operand) (y:Array Nat) :
 fZ prog true call inl ops ⟨some 80,.call ⟨.value (.func 255),x,y⟩,T,pos,aft,none⟩ st=cT (inl 255 (x.toList.map st.ev) st) fun r=>some ((st.back r.2).put (some 80) r.1):=Kl 255 x y (Bs rfl)
def Mw:Code:=iP (Tryz.f175.body.getD .skip)
def aVf (p:Config) (E:Option (List qX)) (q:Int) (m:Nat) (st:St):Prop:=∃(k:Nat) (S:aF) (w:SV) (X:AV),(st.env 1=.ptr 1 0 0/\st.heap 1 0=some (.cells (aB (nI S X)))/\st.env 2=.ptr 2 0 0/\st.heap 2 0=some (.cells (aB eU))/\st.env 5=ov cN E/\st.env 6=aa k/\0<st.aJ 1/\0<st.aJ 2)/\((X=af/\w.E=none)\/∃g L,w.E=some L/\X=.own 61 g/\g<st.aJ 61/\st.heap 61 g=some (.row 68 67 L.length (cN L)))/\GI (nI S (ov cN w.E)) w q/\RG (nI S (ov cN w.E)) w/\S.cFg=p/\(ol w.E).length<=k/\k<=(ol E).length/\m=(ol E).length-k
def jr (p:Config) (q:Int) (e:Ex) (st:St):Prop:=e=.exit 0/\∃(S:aF) (w:SV) (X:AV),(st.env 1=.ptr 1 0 0/\st.heap 1 0=some (.cells (aB (nI S X)))/\st.env 2=.ptr 2 0 0/\st.heap 2 0=some (.cells (aB eU)))/\((X=af/\w.E=none)\/∃g L,w.E=some L/\X=.own 61 g/\st.heap 61 g=some (.row 68 67 L.length (cN L)))/\GI (nI S (ov cN w.E)) w q/\RG (nI S (ov cN w.E)) w/\S.cFg=p
def jt:AV->Int
 | .sl n _=>n
 | _=>0
def CD (o:Option (List Int)):jt (ov bD o)=(ol o).length:=wa
def aF0 {c0:Config} {E:Option (List qX)} (hE:∀a∈ol E,Dh a) (hEa:∀a∈ol E,∃V,a.dL=ov aH (some V)/\V≠[]) (hEv:∀a∈ol E,∃V,a.dL=ov aH (some V)/\vM V (jt c0.fL)=0) (nE:((ol E).length:Int)<=c0.lim.mK) (nE':((ol E).length:Int)<900000) (hs:aVf c0 E q m st):∃e st',vN prog true Mw st=some (e,st')/\jr c0 q e st':=by
 have key:∃r,cT (vN prog true Mw st) some=some r/\jr c0 q r.1 r.2:=by
  unfold Mw;simp only[Tryz.f175,Option.getD_some,iP];refine jV (aVf c0 E q) (jr c0 q) m ?step ?start ?rest
  case start=>exact hs
  case rest=>exact fun e st h=>⟨_,rfl,h⟩
  case step =>
   clear hs
   rintro m st ⟨k,S,w,X,D,hX,p,l,W,hF,hk,hm⟩
   by_cases A:(k:Int)<(ol E).length
   case neg =>
    have hX':(X=af/\w.E=none)\/∃g L,w.E=some L/\X=.own 61 g/\st.heap 61 g=some (.row 68 67 L.length (cN L)):=hX.imp id fun ⟨g,L,J,h2,_,h4⟩=>⟨g,L,J,h2,h4⟩
    apply BW (.exit 0)
    ·simp only[ZG,seval,Dn,D,A];rfl
    ·exact⟨rfl,S,w,X,XC,Qa8,p,l,W⟩
   obtain ⟨q0,hw⟩ := yY k
   obtain⟨a,ea⟩:∃a,gx Sz (ol E) (k:Int)=a:=⟨_,rfl⟩
   have Y:Dh a:=by grind [lB]
   have hEv':∃V,a.dL=ov aH (some V)/\vM V (ol w.B).length=0:=by rw[<- CD,show ov bD w.B=c0.fL by rw[<- W];exact p.sd.fL.symm,<- ea];exact hEv _ (lB q0 A)
   have hEa':∃V,a.dL=ov aH (some V)/\V≠[]:=by grind [lB]
   obtain⟨V,hV,nV⟩:=id Y
   have fa:Flat (au a):=(rS a).2 Y.fl
   have fl9:=p.sd.flat
   by_cases g1:S.now<=a.slot
   · -- kept
    rcases hX with ⟨rfl,C⟩|⟨g,L,C,rfl,hg,u⟩
    ·have M:=p.early (some [a]) yw (by show ((1:Nat):Int)<=S.cFg.lim.mK;rw[W];omega)
     have RW:RG (nI S (ov cN (some [a]))) { w with E:=some [a]}:=⟨⟨l.now,l.j,l.f,l.nd,l.or,l.rt,l.fe,l.ds,l.tb,⟨l.ne.q,qe,l.ne.t,fun b hb=>by grind [ol] ,l.ne.tb⟩,l.vs.early (some [a]) _ fun b hb=>yw⟩,l.op⟩
     have an1:=CE a
     apply Ka ((ol E).length-(k+1))
     ·simp only[ZG,seval,Dn,D,A,q0,ea,Mv,Ba,g1,fa,an1,hw];rfl
     ·exact⟨k+1,S,{ w with E:=some [a]},_,UV,.inr ⟨_,[a],rfl,rfl,Yo,Wl⟩,M,RW,W,by show 1<=k+1;omega,WF,rfl⟩
    ·have hlL:L.length<=k:=by rw[C] at hF;exact hF
     have nL:bg L.length:=WF
     have vO:(g=st.aJ 61)=False:=eq_false WF
     have M:=p.early (some (L++[a])) (by
      intro b hb;rcases mem_append.1 (show b∈L++[a] from hb) with hb|hb
      ·exact p.sd.eV b (by rw[C];exact hb)
      grind) (by show (((L++[a]).length:Nat):Int)<=S.cFg.lim.mK;grind)
     have RW:RG (nI S (ov cN (some (L++[a])))) { w with E:=some (L++[a])}:=⟨⟨l.now,l.j,l.f,l.nd,l.or,l.rt,l.fe,l.ds,l.tb,⟨l.ne.q,qe,l.ne.t,fun b hb=>by rcases mem_append.1 (show b∈L++[a] from hb) with hb|hb;exact l.ne.ea b (by rw[C];exact hb);grind,l.ne.tb⟩,l.vs.early (some (L++[a])) _ fun b hb=>(mem_append.1 (show b∈L++[a] from hb)).elim (fun hb=>l.vs.ea b (by rw[C];exact hb)) fun hb=>qg⟩,l.op⟩
     apply Ka ((ol E).length-(k+1))
     ·simp only[ZG,seval,Dn,D,u,vO,A,q0,ea,Mv,Ba,g1,fa,Mq _ _ _ _ nL,hw];rfl
     ·exact⟨k+1,S,{ w with E:=some (L++[a])},_,UV,.inr ⟨_,L++[a],rfl,rfl,Yo,Wl⟩,M,RW,W,by show (L++[a]).length<=k+1;grind,WF,rfl⟩
   ·have c254':=aTv p.sd p.up p.sp a V hV WF
    have R6:∀(st:St) (d:Option Nat),eE st (bc (nI S X))=some (bc (nI S (ov cN w.E)))->aO (aA prog) 254 [bc (nI S X),au a] st d=some { dst:=d,val:=.cY [ae ((vZ (nI S (ov cN w.E)) w a (ol V)).1),aa ((vZ (nI S (ov cN w.E)) w a (ol V)).2)]}:=by
     intro st d N;rw[dZ,map_cons,map_cons,map_nil,N,cV fa,aM,aM,dB];exact RA c254' (by intro x N;simp only[mem_cons,not_mem_nil,or_false] at N;rcases N with rfl|rfl<;>exact .v _) (.cY _ (aU (.v _) (.v _)))
    have R:GI (nI (Ec S w a (ol V)) (ov cN w.E)) { w with L:=some (pZ (ol w.L) a.target.aG a.root (ol V)).1 } q:=p.cast a (ol V)
    have ZI:RG (nI (Ec S w a (ol V)) (ov cN w.E)) { w with L:=some (pZ (ol w.L) a.target.aG a.root (ol V)).1 }:=⟨⟨l.now,l.j,l.f,l.nd,l.or,l.rt,l.fe,l.ds,l.tb,⟨l.ne.q,l.ne.e,l.ne.t,l.ne.ea,l.ne.tb⟩,l.vs.cast a (ol V)⟩,l.op⟩
    rcases hX with ⟨rfl,C⟩|⟨g,L,C,rfl,hg,u⟩
    ·have e0:ov cN w.E=af:=dw
     have k254n:=fun st d=>R6 st d (by grind [cV])
     by_cases g2:(vZ (nI S (ov cN w.E)) w a (ol V)).2=0
     case neg =>
      apply Ka ((ol E).length-(k+1))
      ·simp only[ZG,seval,Dn,D,A,q0,ea,Mv,Ba,g1,k254n,bW,bf g2,hw];rfl
      ·exact⟨k+1,S,w,_,UV,.inl ⟨rfl,C⟩,p,l,W,WF,WF,rfl⟩
     have hr:∀x∈ol V,0<=x/\x<(ol w.L).length:=by rw[p.Wg];exact EM (Kg g2)
     obtain⟨G,Wm⟩:=aFU p.sd af a V hV WF hr
     have kG:∀st,oX prog 255 [bc (nI S af),au a] st=some (bc (nI (Ec S w a (ol V)) af),G st):=fun st=>(Wm st).1
     have f1:∀st:St,0<st.aJ 1->(G st).heap 1 0=st.heap 1 0:=fun st h=>(Wm st).2.1 1 0 h
     have f2:∀st:St,0<st.aJ 2->(G st).heap 2 0=st.heap 2 0:=fun st h=>(Wm st).2.1 2 0 h
     have c1:∀st:St,0<st.aJ 1->(0<(G st).aJ 1)=True:=fun st h=>eq_true (Nat.lt_of_lt_of_le h ((Wm st).2.2 1))
     have c2:∀st:St,0<st.aJ 2->(0<(G st).aJ 2)=True:=fun st h=>eq_true (Nat.lt_of_lt_of_le h ((Wm st).2.2 2))
     apply Ka ((ol E).length-(k+1))
     ·simp only[ZG,seval,Dn,D,A,q0,ea,Mv,Ba,g1,k254n,bW,bt g2,aNn,kG,f1,bV,aN,aV,hw];rfl
     ·exact⟨k+1,Ec S w a (ol V),{ w with L:=some (pZ (ol w.L) a.target.aG a.root (ol V)).1 },_,⟨ww,QaR,ww,by simp only[E8,seval,D,aN,aV,f2],ww,ww,by simp only[E8,seval,D,aV,c1],by simp only[E8,seval,D,aV,c2]⟩,.inl ⟨rfl,C⟩,R,ZI,W,qg,WF,rfl⟩
    ·have hLf:∀x∈L,Flat x.dL:=fun x N=>(p.sd.eV x (by rw[C];exact N)).fl
     have k254o:∀(st:St) (d:Option Nat),st.heap 61 g=some (.row 68 67 L.length (cN L))->_:=fun st d h61=>R6 st d (by rw[C];exact FB p.sd hLf st h61)
     by_cases g2:(vZ (nI S (ov cN w.E)) w a (ol V)).2=0
     case neg =>
      apply Ka ((ol E).length-(k+1))
      ·simp only[ZG,seval,Dn,D,u,A,q0,ea,Mv,Ba,g1,k254o,bW,bf g2,hw];rfl
      ·exact⟨k+1,S,w,_,UV,.inr ⟨g,L,C,rfl,Yo,np⟩,p,l,W,WF,WF,rfl⟩
     have hr:∀x∈ol V,0<=x/\x<(ol w.L).length:=by rw[p.Wg];exact EM (Kg g2)
     obtain⟨G,Wm⟩:=aFU p.sd (.own 61 g) a V hV WF hr
     have kG:∀st,oX prog 255 [bc (nI S (.own 61 g)),au a] st=some (bc (nI (Ec S w a (ol V)) (.own 61 g)),G st):=fun st=>(Wm st).1
     have f1:∀st:St,0<st.aJ 1->(G st).heap 1 0=st.heap 1 0:=fun st h=>(Wm st).2.1 1 0 h
     have f2:∀st:St,0<st.aJ 2->(G st).heap 2 0=st.heap 2 0:=fun st h=>(Wm st).2.1 2 0 h
     have f3:∀st:St,g<st.aJ 61->(G st).heap 61 g=st.heap 61 g:=fun st h=>(Wm st).2.1 61 g h
     have c1:∀st:St,0<st.aJ 1->(0<(G st).aJ 1)=True:=fun st h=>eq_true (Nat.lt_of_lt_of_le h ((Wm st).2.2 1))
     have c2:∀st:St,0<st.aJ 2->(0<(G st).aJ 2)=True:=fun st h=>eq_true (Nat.lt_of_lt_of_le h ((Wm st).2.2 2))
     have c3:∀st:St,g<st.aJ 61->(g<(G st).aJ 61)=True:=fun st h=>eq_true (Nat.lt_of_lt_of_le h ((Wm st).2.2 61))
     apply Ka ((ol E).length-(k+1))
     ·simp only[ZG,seval,Dn,D,u,A,q0,ea,Mv,Ba,g1,k254o,bW,bt g2,aNn,kG,f1,bV,aN,aV,hw];rfl
     ·exact⟨k+1,Ec S w a (ol V),{ w with L:=some (pZ (ol w.L) a.target.aG a.root (ol V)).1 },_,⟨ww,QaR,ww,by simp only[E8,seval,D,aN,aV,f2],ww,ww,by simp only[E8,seval,D,aV,c1],by simp only[E8,seval,D,aV,c2]⟩,.inr ⟨g,L,C,rfl,by simp only[E8,seval,aV,hg,c3],by simp only[E8,seval,aN,aV,hg,u,f3]⟩,R,ZI,W,qg,WF,rfl⟩
 obtain⟨r,h,hq⟩:=key
 cases N:vN prog true Mw st with
 | none=>rw[N] at h;cases h
 | some y=>grind [cC]
def a2s (h:GI s v q) (r:RG s v):∃x,aA prog 175 [bc s]=some x/\StR s q x:=by
 have R:=sI
 have hf:=h.sd.flat
 have ZD:=h.sp
 rw[cG func175 rfl aVh WP rfl]
 by_cases g1:1099511627776<=s.now
 ·simp only[ZG,seval,Dn,g1];exact⟨_,qh,eU,3,rfl,R,ZB,fun h=>wu⟩
 have hw:u64.wrap (s.now+1)=s.now+1:=wrap_u64 _ (by have:=r.now.1;omega) WF
 obtain⟨s1,hs1⟩:∃s1:aF,s1={ s with now:=s.now+1,dY:=bQ }:=⟨_,rfl⟩
 have J:GI s1 v q:=by
  rw[hs1];exact⟨⟨h.sd.fL,h.sd.cJ,h.sd.dM,h.sd.early,h.sd.bL,h.sd.tree,h.sd.tables,h.sd.eV,h.sd.tB,h.sd.nB,h.sd.nL,h.sd.nQ,h.sd.nE,h.sd.nO,h.sd.nT,h.sd.nn⟩,h.up,h.Nv,h.pos,h.nl,h.RE,h.iH,h.Wg,h.nB,h.nO,h.AH,h.nE,h.KU,h.nT,h.KV,h.nQ,h.N8,h.dX⟩
 have G:RG s1 v:=by
  rw[hs1];exact⟨⟨⟨by show 0<=s.now+1;have:=r.now.1;omega,qg⟩,r.j,r.f,fun n M=>⟨(r.nd n M).1,QbQ⟩,r.or,r.rt,⟨r.fe.1,Int.le_trans r.fe.2 (show pY s s.now<=pY s (s.now+1) from ZJ h.iH.1 r.now.1 WF WF)⟩,r.ds,r.tb,r.ne,(r.vs.YO (n:=s.now+1) WF).dY bQ (.inl rfl)⟩,r.op⟩
 have A:∀a∈ol v.E,∃V,a.dL=ov aH (some V)/\vM V (jt s.cFg.fL)=0:=by rw[h.sd.fL,CD];exact r.vs.ea
 have c1:s1.cFg=s.cFg:=by rw[hs1]
 have nE:=h.nE
 have KU:=h.KU
 subst hs1;have uE:∀(S:aF) (w:SV) (a b:dH),(mU S w a b).E=w.E:=fun S w a b=>by grind [mU]
 by_cases g2:(s.now+1).tmod s.cFg.iH=0
 case neg =>
  simp only[ZG,seval,Dn,g1,hw,ZD,bf g2,h.sd.early];refine Mx (a:=Mw) (jr s.cFg q) (aF0 (E:=v.E) h.sd.eV r.ne.ea A WF WF (m:=(ol v.E).length) ⟨0,{ s with now:=s.now+1,dY:=bQ },{ v with E:=none },af,⟨qb,Wl,qb,qb,qb,Wl,Yo,Yo⟩,.inl ⟨rfl,rfl⟩,J.early none zc (by show ((0:Nat):Int)<=_;rw[c1];omega),⟨⟨G.now,G.j,G.f,G.nd,G.or,G.rt,G.fe,G.ds,G.tb,⟨G.ne.q,nofun,G.ne.t,(fun a Y=>bk),G.ne.tb⟩,G.vs.early none _ fun a Y=>bk⟩,G.op⟩,c1,zc,WF,WF⟩) ?rest
  rintro e st ⟨rfl,S,w,X,D,hX,p,l,W⟩
  have CF:=p.sd.flat
  rcases hX with ⟨rfl,Km⟩|⟨g,L,Km,rfl,u⟩
  ·rw[Km] at CF p l;have hf1:Flat (bc (nI S af)):=CF
   simp only[ZG,seval,Dn,D];exact⟨_,Qbd,_,0,rfl,hf1,ZB,fun _=>⟨w,p,l,W⟩⟩
  ·have hLf:∀x∈L,Flat x.dL:=fun x N=>(p.sd.eV x (by rw[Km];exact N)).fl
   have hex:∀st:St,st.heap 61 g=some (.row 68 67 L.length (cN L))->eE st (bc (nI S (.own 61 g)))=some (bc (nI S (ov cN (some L)))):=fun st u=>FB p.sd hLf st u
   rw[Km] at CF p l;simp only[ZG,seval,Dn,D];exact⟨_,Qa7,_,0,rfl,CF,ZB,fun _=>⟨w,p,l,W⟩⟩
 have k252':=a0U J.sd
 have pv:=aBq fun n M=>(G.nd n M).1
 have k253':=aOq J.sd J.up J.sp (tP v.ns).pj (tP v.ns).pf
 have h2:=J.dE (tP v.ns).pj (tP v.ns).pf
 have C:=RG.dE G pv.1 pv.2
 have c2:=qA { s with now:=s.now+1,dY:=bQ } v (tP v.ns).pj (tP v.ns).pf
 have e2:=h2.sd.early
 rw[uE] at e2;obtain⟨S2,hS2⟩:∃S2,rH { s with now:=s.now+1,dY:=bQ } v (tP v.ns).pj (tP v.ns).pf=S2:=⟨_,rfl⟩
 rw[hS2] at k253' h2 C c2 e2
 have c3:S2.cFg=s.cFg:=c2
 simp only[ZG,seval,Dn,g1,hw,ZD,bt g2,k252',k253',e2];refine Mx (a:=Mw) (jr s.cFg q) (aF0 (E:=v.E) h.sd.eV r.ne.ea A WF WF (m:=(ol v.E).length) ⟨0,S2,{ mU { s with now:=s.now+1,dY:=bQ } v (tP v.ns).pj (tP v.ns).pf with E:=none },af,⟨qb,Wl,qb,qb,qb,Wl,Yo,Yo⟩,.inl ⟨rfl,rfl⟩,h2.early none zc (by show ((0:Nat):Int)<=_;rw[c3];omega),⟨⟨C.now,C.j,C.f,C.nd,C.or,C.rt,C.fe,C.ds,C.tb,⟨C.ne.q,nofun,C.ne.t,(fun a Y=>bk),C.ne.tb⟩,C.vs.early none _ fun a Y=>bk⟩,C.op⟩,c3,zc,WF,WF⟩) ?Bq
 rintro e st ⟨rfl,S,w,X,D,hX,p,l,W⟩
 have CF:=p.sd.flat
 rcases hX with ⟨rfl,Km⟩|⟨g,L,Km,rfl,u⟩
 ·rw[Km] at CF p l;have hf1:Flat (bc (nI S af)):=CF
  simp only[ZG,seval,Dn,D];exact⟨_,Qbd,_,0,rfl,hf1,ZB,fun _=>⟨w,p,l,W⟩⟩
 ·have hLf:∀x∈L,Flat x.dL:=fun x N=>(p.sd.eV x (by rw[Km];exact N)).fl
  have hex:∀st:St,st.heap 61 g=some (.row 68 67 L.length (cN L))->eE st (bc (nI S (.own 61 g)))=some (bc (nI S (ov cN (some L)))):=fun st u=>FB p.sd hLf st u
  rw[Km] at CF p l;simp only[ZG,seval,Dn,D];exact⟨_,Qa7,_,0,rfl,CF,ZB,fun _=>⟨w,p,l,W⟩⟩
def pD (t:State) (X Y:AV) (tag:Int):State:={ t with fX:=X,iB:=Y,cI:=tag }
def aVi:aP 0 3 3/\aP 1 8 8/\aP 2 8 14/\aP 3 5 21/\aP 4 2 25:=⟨rfl,rfl,rfl,rfl,rfl⟩
def aOQ (t:State) (Y:AV) (o:Option (List Request)) (tag:Int) (M:bg (ol o).length) (r:bU) (n:Int) :
 ∃G:St->St,∀st,oX prog 257 [bd (pD t (ov aC o) Y tag),.agg (aW r),aa n] st=some (bd (pD t (.own 19 (st.aJ 19)) Y (u64.wrap (tag+1))),G st)/\Jb st (G st)/\(G st).heap 19 (st.aJ 19)=some (.row 102 35 (ol o++[(⟨⟨tag⟩,r,n,0⟩:Request)]).length (aC (ol o++[(⟨⟨tag⟩,r,n,0⟩:Request)])))/\st.aJ 19<(G st).aJ 19:=by
 have one:∀st,∃st',oX prog 257 [bd (pD t (ov aC o) Y tag),.agg (aW r),aa n] st=some (bd (pD t (.own 19 (st.aJ 19)) Y (u64.wrap (tag+1))),st')/\Jb st (st')/\(st').heap 19 (st.aJ 19)=some (.row 102 35 (ol o++[(⟨⟨tag⟩,r,n,0⟩:Request)]).length (aC (ol o++[(⟨⟨tag⟩,r,n,0⟩:Request)])))/\st.aJ 19<(st').aJ 19:=by
  intro st;by_cases hy:True
  case neg=>exact⟨st,absurd trivial hy⟩
  suffices h:∃st',oX prog 257 [bd (pD t (ov aC o) Y tag),.agg (aW r),aa n] st=some (bd (pD t (.own 19 (st.aJ 19)) Y (u64.wrap (tag+1))),st')/\Jb st (st')/\(st').heap 19 (st.aJ 19)=some (.row 102 35 (ol o++[(⟨⟨tag⟩,r,n,0⟩:Request)]).length (aC (ol o++[(⟨⟨tag⟩,r,n,0⟩:Request)])))/\st.aJ 19<(st').aJ 19 by
   omega
  have A:(pD t (ov aC o) Y tag).fX=ov aC o:=rfl
  have e2:(pD t (ov aC o) Y tag).cI=tag:=rfl
  have zR:cS.due=0:=rfl
  rw[Aj prog func257 rfl WP]
  simp only[ZG,seval,aVi,A,e2,zR,rX _ M,mS _ _ _ _ M];refine⟨_,Kk (P:=prog) (fn:=Tryz.f257) (r:=.cell 6 57) (x:=bd (pD t (.own 19 (st.aJ 19)) Y (u64.wrap (tag+1)))) (.inl rfl) rfl ?h1,⟨fun x g hg=>?h2,fun x=>?h3⟩, ?h4, ?h5⟩
  case h1 =>
   rw[pF];simp only[bC,Z8,seval];rfl
  case h2 =>
   have l:(x=3/\g=st.aJ 3)=False:=eq_false qr
   have C:(x=4/\g=st.aJ 4)=False:=eq_false qr
   have n6:(x=6/\g=st.aJ 6)=False:=eq_false qr
   have n7:(x=7/\g=st.aJ 7)=False:=eq_false qr
   have n16:(x=16/\g=st.aJ 16)=False:=eq_false qr
   have n18:(x=18/\g=st.aJ 18)=False:=eq_false qr
   have n19:(x=19/\g=st.aJ 19)=False:=eq_false qr
   simp only[E8,seval,aN,aV,l,C,n6,n7,n16,n18,n19,if_false]
  case h3 =>
   simp only[E8,seval,aN,aV];grind
  case h4=>simp only[E8,seval,aN,aV]
  case h5=>simp only[E8,seval,aN,aV]<;>omega
 exact⟨fun st=>Classical.choose (one st),fun st=>Classical.choose_spec (one st)⟩
def aJ3 (t:State) (Y:AV) (g0:Nat) (L:List Request) (tag:Int) (M:bg (L).length) (r:bU) (n:Int) :
 ∃G:St->St,∀st,(st.heap 19 g0=some (.row 102 35 L.length (aC L))/\g0<st.aJ 19)->oX prog 257 [bd (pD t (.own 19 g0) Y tag),.agg (aW r),aa n] st=some (bd (pD t (.own 19 (st.aJ 19)) Y (u64.wrap (tag+1))),G st)/\Jb st (G st)/\(G st).heap 19 (st.aJ 19)=some (.row 102 35 (L++[(⟨⟨tag⟩,r,n,0⟩:Request)]).length (aC (L++[(⟨⟨tag⟩,r,n,0⟩:Request)])))/\st.aJ 19<(G st).aJ 19:=by
 have one:∀st,∃st',(st.heap 19 g0=some (.row 102 35 L.length (aC L))/\g0<st.aJ 19)->oX prog 257 [bd (pD t (.own 19 g0) Y tag),.agg (aW r),aa n] st=some (bd (pD t (.own 19 (st.aJ 19)) Y (u64.wrap (tag+1))),st')/\Jb st (st')/\(st').heap 19 (st.aJ 19)=some (.row 102 35 (L++[(⟨⟨tag⟩,r,n,0⟩:Request)]).length (aC (L++[(⟨⟨tag⟩,r,n,0⟩:Request)])))/\st.aJ 19<(st').aJ 19:=by
  intro st;by_cases hy:(st.heap 19 g0=some (.row 102 35 L.length (aC L))/\g0<st.aJ 19)
  case neg=>exact⟨st,fun h=>absurd h hy⟩
  suffices h:∃st',oX prog 257 [bd (pD t (.own 19 g0) Y tag),.agg (aW r),aa n] st=some (bd (pD t (.own 19 (st.aJ 19)) Y (u64.wrap (tag+1))),st')/\Jb st (st')/\(st').heap 19 (st.aJ 19)=some (.row 102 35 (L++[(⟨⟨tag⟩,r,n,0⟩:Request)]).length (aC (L++[(⟨⟨tag⟩,r,n,0⟩:Request)])))/\st.aJ 19<(st').aJ 19 by
   grind
  have A:(pD t (.own 19 g0) Y tag).fX=.own 19 g0:=rfl
  have e2:(pD t (.own 19 g0) Y tag).cI=tag:=rfl
  have zR:cS.due=0:=rfl
  have N:(g0=st.aJ 19)=False:=eq_false (by have:=hy.2;omega)
  rw[Aj prog func257 rfl WP]
  simp only[ZG,seval,aVi,A,e2,zR,hy.1,N,rX _ M,mS _ _ _ _ M];refine⟨_,Kk (P:=prog) (fn:=Tryz.f257) (r:=.cell 6 57) (x:=bd (pD t (.own 19 (st.aJ 19)) Y (u64.wrap (tag+1)))) (.inl rfl) rfl ?h1,⟨fun x g hg=>?h2,fun x=>?h3⟩, ?h4, ?h5⟩
  case h1 =>
   rw[pF];simp only[bC,Z8,seval];rfl
  case h2 =>
   have l:(x=3/\g=st.aJ 3)=False:=eq_false qr
   have C:(x=4/\g=st.aJ 4)=False:=eq_false qr
   have n6:(x=6/\g=st.aJ 6)=False:=eq_false qr
   have n7:(x=7/\g=st.aJ 7)=False:=eq_false qr
   have n16:(x=16/\g=st.aJ 16)=False:=eq_false qr
   have n18:(x=18/\g=st.aJ 18)=False:=eq_false qr
   have n19:(x=19/\g=st.aJ 19)=False:=eq_false qr
   simp only[E8,seval,aN,aV,l,C,n6,n7,n16,n18,n19,if_false]
  case h3 =>
   simp only[E8,seval,aN,aV];grind
  case h4=>simp only[E8,seval,aN,aV]
  case h5=>simp only[E8,seval,aN,aV]<;>omega
 exact⟨fun st=>Classical.choose (one st),fun st=>Classical.choose_spec (one st)⟩
def LA (ns:List Node) (now:Int) (a:(Option (List Request) × Int) × List Request) (r:Request):(Option (List Request) × Int) × List Request :=
 if now<r.due then (a.1,a.2++[r]) else if wG ns r.block then ((some (ol a.1.1++[⟨⟨a.1.2⟩,r.block,r.tries,0⟩]),u64.wrap (a.1.2+1)),a.2) else a
def Hn (ns:List Node) (now:Int) (a:(Option (List Request) × Int) × List Request) (l:List Request):(Option (List Request) × Int) × List Request:=l.foldl (LA ns now) a
def aCS (ns:List Node) (now:Int) (a:(Option (List Request) × Int) × List Request) (l:List Request) (k:Nat) (h:k<l.length):Hn ns now a (l.take (k+1))=LA ns now (Hn ns now a (l.take k)) (gx cS l k):=by
 grind [Hn,take_succ_eq_append_getElem,gx]
theorem aF1 (ns:List Node) (now:Int) (a:(Option (List Request) × Int) × List Request) (r:Request):(ol (LA ns now a r).1.1).length<=(ol a.1.1).length+1/\(LA ns now a r).2.length<=a.2.length+1:=by
 grind [LA,ol]
theorem ZK (ns:List Node) (now:Int) (l:List Request):∀(a:(Option (List Request) × Int) × List Request),(ol (Hn ns now a l).1.1).length<=(ol a.1.1).length+l.length/\(Hn ns now a l).2.length<=a.2.length+l.length:=by
 induction l<;>grind [aF1,Hn]
def Fv (o:Option (List Request)):cO st (ov aC o)=some (ov aC o):=EO (fS o)
theorem lR {a:Nat} {L:List Request} (h:st.heap a g=some (.row 102 35 L.length (aC L))):cO st (.own a g)=some (ov aC (some L)):=by
 rw[eG,h];exact qJ _ _
def aBr (h:TD t v Q R) (st:St) {X Y A C:AV} (hx:cO st X=some A) (hy:cO st Y=some C) (tag:Int):eE st (bd (pD t X Y tag))=some (bd (pD t A C tag)):=by
 have nY:=h.fl
 simp_all [pD,dC,xE,bY,cC]
def TD.rq (h:TD t v Q R) (q z:Option (List Request)) (tag:Int) (N:((ol q).length:Int)<900000) (hz:((ol z).length:Int)<900000):TD (pD t (ov aC q) (ov aC z) tag) v q z:=⟨h.sd,rfl,rfl,N,hz⟩
def aVj (h:TD t v Q R) (q z:Option (List Request)) (tag:Int) (hq:((ol q).length:Int)<900000) (hz:((ol z).length:Int)<900000) (r:bU) (st:St) (d:Option Nat) {X Y:AV} (N:cO st X=some (ov aC q)) (hy:cO st Y=some (ov aC z)) :
 aO (aA prog) 256 [bd (pD t X Y tag),.agg (aW r)] st d=some { dst:=d,val:=ae (decide (wG v.ns r))}:=by
 rw[dZ,map_cons,map_cons,map_nil,aBr h st N hy,Az,aM,aM,dB];exact Ee (aUZ (h.rq q z tag hq hz) r)
def aVk (x:Array Operand) (y:Array Nat) :
 fZ prog true call inl ops ⟨some 50,.call ⟨.value (.func 257),x,y⟩,T,pos,aft,none⟩ st=cT (inl 257 (x.toList.map st.ev) st) fun r=>some ((st.back r.2).put (some 50) r.1):=Kl 257 x y (Bs rfl)
def RZ (t:State) (ns:List Node) (Q R:Option (List Request)):(Option (List Request) × Int) × List Request:=Hn ns t.store.now ((Q,t.cI),[]) (ol R)
def rh (t:State) (ns:List Node) (Q R:Option (List Request)):State:=pD t (ov aC (RZ t ns Q R).1.1) (ov aC (nz (RZ t ns Q R).2)) (RZ t ns Q R).1.2
def SA (t:State) (X Y:AV) (tag:Int):(pD t X Y tag).fX=X:=rfl
def SC (t:State) (X Y:AV) (tag:Int):(pD t X Y tag).iB=Y:=rfl
def SE (t:State) (X Y:AV) (tag:Int):(pD t X Y tag).cI=tag:=rfl
def SF (t:State) (X Y:AV) (tag:Int):(pD t X Y tag).store=t.store:=rfl
def a2t (h:TD t v Q R) (hn:((ol Q).length:Int)+(ol R).length<800000):aA prog 176 [bd t]=some (bd (rh t v.ns Q R)):=by
 have nY:=h.fl
 have nR:=h.nR
 have hlen:∀k:Nat,(ol (Hn v.ns t.store.now ((Q,t.cI),[]) ((ol R).take k)).1.1).length<=(ol Q).length+(ol R).length/\(Hn v.ns t.store.now ((Q,t.cI),[]) ((ol R).take k)).2.length<=(ol R).length:=fun k=>by
  grind [ZK]
 rw[cG func176 rfl aVl WP rfl]
 refine eM ?_
 simp only[ZG,seval,Oy,h.ret];refine jV (fun m st=>∃(k:Nat) (X Y:AV) (p:(Option (List Request) × Int) × List Request),(st.env 1=.ptr 1 0 0/\st.heap 1 0=some (.cells (aE (pD t X Y p.1.2)))/\st.env 2=.ptr 2 0 0/\st.heap 2 0=some (.cells (aE iS))/\st.env 3=ov aC R/\st.env 4=aa k/\0<st.aJ 1/\0<st.aJ 2)/\(X=ov aC p.1.1\/∃g L,p.1.1=some L/\X=.own 19 g/\g<st.aJ 19/\st.heap 19 g=some (.row 102 35 L.length (aC L)))/\((Y=af/\p.2=[])\/∃g,p.2≠[]/\Y=.own 30 g/\g<st.aJ 30/\st.heap 30 g=some (.row 102 35 p.2.length (aC p.2)))/\p=Hn v.ns t.store.now ((Q,t.cI),[]) ((ol R).take k)/\k<=(ol R).length/\m=(ol R).length-k)
  (fun e st=>e=.exit 0/\∃(X Y:AV) (p:(Option (List Request) × Int) × List Request),(st.env 1=.ptr 1 0 0/\st.heap 1 0=some (.cells (aE (pD t X Y p.1.2)))/\st.env 2=.ptr 2 0 0/\st.heap 2 0=some (.cells (aE iS)))/\(X=ov aC p.1.1\/∃g L,p.1.1=some L/\X=.own 19 g/\st.heap 19 g=some (.row 102 35 L.length (aC L)))/\((Y=af/\p.2=[])\/∃g,p.2≠[]/\Y=.own 30 g/\st.heap 30 g=some (.row 102 35 p.2.length (aC p.2)))/\p=RZ t v.ns Q R) (ol R).length ?step ?start ?rest
 case step =>
  rintro m st ⟨k,X,Y,p,D,hX,l,hp,hk,hm⟩
  by_cases A:(k:Int)<(ol R).length
  case neg =>
   have Gt:k=(ol R).length:=WF
   rw[Gt,take_length] at hp;have S:(X=ov aC p.1.1\/∃g L,p.1.1=some L/\X=.own 19 g/\st.heap 19 g=some (.row 102 35 L.length (aC L))):=hX.imp id fun ⟨g,L,a,b,_,c⟩=>⟨g,L,a,b,c⟩
   have hY':((Y=af/\p.2=[])\/∃g,p.2≠[]/\Y=.own 30 g/\st.heap 30 g=some (.row 102 35 p.2.length (aC p.2))):=l.imp id fun ⟨g,a,b,_,c⟩=>⟨g,a,b,c⟩
   apply BW (.exit 0)
   ·simp only[ZG,seval,Oy,D,A];rfl
   ·exact⟨rfl,X,Y,p,XC,by simpa only[E8,seval] using S,by simpa only[E8,seval] using hY',hp⟩
  obtain ⟨q0,hw⟩ := yY k
  have hs:=aCS v.ns t.store.now ((Q,t.cI),[]) (ol R) k WF
  have W:=hlen k
  have KY:=hlen (k+1)
  rw[<- hp] at hs W;obtain⟨r,er⟩:∃r,gx cS (ol R) (k:Int)=r:=⟨_,rfl⟩
  rw[er] at hs;unfold LA at hs;have nQ9:((ol p.1.1).length:Int)<900000:=WF
  have nZ9:(p.2.length:Int)<900000:=WF
  have nZ:bg p.2.length:=WF
  by_cases g1:t.store.now<r.due
  ·rw[if_pos g1] at hs;rcases l with ⟨rfl,hz⟩|⟨g,hz,rfl,hg,u⟩
   ·apply Ka ((ol R).length-(k+1))
    ·simp only[ZG,seval,Oy,D,A,q0,er,SA,SC,SE,SF,g1,hw];rfl
    ·exact⟨k+1,X,_,(p.1,p.2++[r]),UV,vm,.inr ⟨_,qe,rfl,Yo,by rw[hz];simp only[E8,seval]<;>rfl⟩,hs.symm,WF,rfl⟩
   ·have vO:(g=st.aJ 30)=False:=eq_false WF
    apply Ka ((ol R).length-(k+1))
    ·simp only[ZG,seval,Oy,D,A,q0,er,SA,SC,SE,SF,u,vO,g1,hw,mS _ _ _ _ nZ];rfl
    ·exact⟨k+1,X,_,(p.1,p.2++[r]),UV,vm,.inr ⟨_,qe,rfl,Yo,Wl⟩,hs.symm,WF,rfl⟩
  rw[if_neg g1] at hs;obtain⟨gX,EX,M,hxx,G,hG⟩:∃(gX:Nat) (EX:Option mH),st.heap 19 gX=EX/\(∀s2:St,s2.heap 19 gX=EX->cO s2 X=some (ov aC p.1.1))/\∃G:St->St,∀s2:St,s2.heap 19 gX=EX->s2.aJ 19=st.aJ 19->oX prog 257 [bd (pD t X Y p.1.2),.agg (aW r.block),aa r.tries] s2=some (bd (pD t (.own 19 (s2.aJ 19)) Y (u64.wrap (p.1.2+1))),G s2)/\Jb s2 (G s2)/\(G s2).heap 19 (s2.aJ 19)=some (.row 102 35 (ol p.1.1++[(⟨⟨p.1.2⟩,r.block,r.tries,0⟩:Request)]).length (aC (ol p.1.1++[(⟨⟨p.1.2⟩,r.block,r.tries,0⟩:Request)])))/\s2.aJ 19<(G s2).aJ 19:=by
   rcases hX with rfl|⟨g,L,hL,rfl,hg,u⟩
   ·obtain⟨G,hG⟩:=aOQ t Y p.1.1 p.1.2 WF r.block r.tries
    exact⟨0,_,rfl,fun s2 _=>Fv _,G,fun s2 _ _=>hG s2⟩
   ·obtain⟨G,hG⟩:=aJ3 t Y g L p.1.2 (by rw[hL] at nQ9;have:(L.length:Int)<900000:=nQ9;omega) r.block r.tries
    rw[hL];exact⟨g,_,u,fun s2 h=>lR h,G,fun s2 J h2=>hG s2 ⟨J,h2 ▸ hg⟩⟩
  obtain⟨gY,EY,hgY,hyx,hyk⟩:∃(gY:Nat) (EY:Option mH),st.heap 30 gY=EY/\(∀s2:St,s2.heap 30 gY=EY->cO s2 Y=some (ov aC (nz p.2)))/\∀s2:St,(gY<st.aJ 30->s2.heap 30 gY=EY)->st.aJ 30<=s2.aJ 30->((Y=af/\p.2=[])\/∃g,p.2≠[]/\Y=.own 30 g/\g<s2.aJ 30/\s2.heap 30 g=some (.row 102 35 p.2.length (aC p.2))):=by
   rcases l with ⟨rfl,hz⟩|⟨g,hz,rfl,hg,u⟩
   ·exact⟨0,_,rfl,fun s2 _=>by rw[show nz p.2=none from if_pos hz];exact Fv none,fun _ _ _=>.inl ⟨rfl,hz⟩⟩
   ·exact⟨g,_,u,fun s2 h=>by grind [nz,lR],fun s2 J h2=>.inr ⟨g,hz,rfl,WF,J hg⟩⟩
  have k256x:∀(s2:St) (d:Option Nat),s2.heap 19 gX=EX->s2.heap 30 gY=EY->aO (aA prog) 256 [bd (pD t X Y p.1.2),.agg (aW r.block)] s2 d=some { dst:=d,val:=ae (decide (wG v.ns r.block))}:=fun s2 d J h2=>aVj h p.1.1 (nz p.2) p.1.2 nQ9 (by rw[mE];exact nZ9) r.block s2 d (hxx s2 J) (hyx s2 h2)
  by_cases g2:wG v.ns r.block
  case neg =>
   rw[if_neg g2] at hs;apply Ka ((ol R).length-(k+1))
   ·simp only[ZG,seval,Oy,D,A,q0,er,SA,SC,SE,SF,g1,k256x,M,hgY,g2,hw];rfl
   ·exact⟨k+1,_,_,p,UV,vm,mb,hs.symm,WF,rfl⟩
  rw[if_pos g2] at hs;have kG:=fun s2 a b=>(hG s2 a b).1
  have f1:∀s2:St,s2.heap 19 gX=EX->s2.aJ 19=st.aJ 19->0<s2.aJ 1->(G s2).heap 1 0=s2.heap 1 0:=fun s2 a b h=>(hG s2 a b).2.1.1 1 0 h
  have f2:∀s2:St,s2.heap 19 gX=EX->s2.aJ 19=st.aJ 19->0<s2.aJ 2->(G s2).heap 2 0=s2.heap 2 0:=fun s2 a b h=>(hG s2 a b).2.1.1 2 0 h
  have f3:∀s2:St,s2.heap 19 gX=EX->s2.aJ 19=st.aJ 19->gY<s2.aJ 30->(G s2).heap 30 gY=s2.heap 30 gY:=fun s2 a b h=>(hG s2 a b).2.1.1 30 gY h
  have cl:∀s2:St,s2.heap 19 gX=EX->s2.aJ 19=st.aJ 19->∀s,s2.aJ s<=(G s2).aJ s:=fun s2 a b s=>(hG s2 a b).2.1.2 s
  have c1:∀s2:St,s2.heap 19 gX=EX->s2.aJ 19=st.aJ 19->0<s2.aJ 1->(0<(G s2).aJ 1)=True:=fun s2 a b h=>eq_true (Nat.lt_of_lt_of_le h (cl s2 a b 1))
  have c2:∀s2:St,s2.heap 19 gX=EX->s2.aJ 19=st.aJ 19->0<s2.aJ 2->(0<(G s2).aJ 2)=True:=fun s2 a b h=>eq_true (Nat.lt_of_lt_of_le h (cl s2 a b 2))
  have c3:∀s2:St,s2.heap 19 gX=EX->s2.aJ 19=st.aJ 19->s2.aJ 30=st.aJ 30->(st.aJ 30<=(G s2).aJ 30)=True:=fun s2 a b h=>eq_true (h ▸ cl s2 a b 30)
  have fn:∀(s2:St) (c:Nat),s2.heap 19 gX=EX->s2.aJ 19=st.aJ 19->c=s2.aJ 19->(G s2).heap 19 c=_:=fun s2 c a b e=>e ▸ (hG s2 a b).2.2.1
  have cn:∀(s2:St) (c:Nat),s2.heap 19 gX=EX->s2.aJ 19=st.aJ 19->c=s2.aJ 19->(c<(G s2).aJ 19)=True:=fun s2 c a b e=>e ▸ eq_true (hG s2 a b).2.2.2
  apply Ka ((ol R).length-(k+1))
  ·simp only[ZG,seval,Oy,D,A,q0,er,SA,SC,SE,SF,g1,k256x,M,hgY,g2,aVk,kG,f1,bV,aN,aV,hw];rfl
  ·exact⟨k+1,_,_,((some (ol p.1.1++[(⟨⟨p.1.2⟩,r.block,r.tries,0⟩:Request)]),u64.wrap (p.1.2+1)),p.2),⟨ww,QaR,ww,by simp only[E8,seval,D,M,aN,aV,f2],ww,ww,by simp only[E8,seval,D,M,aV,c1],by simp only[E8,seval,D,M,aV,c2]⟩,.inr ⟨_,(ol p.1.1++[(⟨⟨p.1.2⟩,r.block,r.tries,0⟩:Request)]),rfl,rfl,by simp only[E8,seval,aV,M,cn],by simp only[E8,seval,aN,aV,M,fn]⟩,hyk _ (fun hg=>by simp only[E8,seval,aN,aV,M,hgY,f3,hg]) (by simp only[E8,seval,aV,M,c3]),hs.symm,WF,rfl⟩
 case start=>exact⟨0,ov aC Q,af,((Q,t.cI),[]),⟨qb,by simp only[E8,seval,h.Nx]<;>rfl,qb,qb,qb,Wl,Yo,Yo⟩,.inl rfl,.inl ⟨rfl,rfl⟩,rfl,WF,WF⟩
 case rest =>
  rintro e st ⟨rfl,X,Y,p,D,hX,l,hp⟩
  have C:rh t v.ns Q R=pD t (ov aC p.1.1) (ov aC (nz p.2)) p.1.2:=by unfold rh;rw[<- hp]
  have hex:∀st:St,∀X' Y',cO st X=some X'->cO st Y=some Y'->eE st (bd (pD t X Y p.1.2))=some (bd (pD t X' Y' p.1.2)):=fun st X' Y' N hy=>aBr h st N hy p.1.2
  rcases hX with rfl|⟨g,L,hL,rfl,u⟩
  ·rcases l with ⟨rfl,hz⟩|⟨g9,hz,rfl,hh9⟩
   ·rw[hz,show nz ([]:List Request)=none from if_pos rfl] at C
    simp only[ZG,seval,Oy,D];exact⟨_,jE rfl qc mg (hex _ _ _ (Fv _) (Fv none)),wm⟩
   ·rw[show nz p.2=some p.2 from if_neg hz] at C;simp only[ZG,seval,Oy,D,hh9];exact⟨_,jE rfl qc mg (hex _ _ _ (Fv _) (lR (by simp only[E8,seval,hh9]<;>rfl))),wm⟩
  ·rcases l with ⟨rfl,hz⟩|⟨g9,hz,rfl,hh9⟩
   ·rw[hz,show nz ([]:List Request)=none from if_pos rfl,hL] at C
    simp only[ZG,seval,Oy,D,u];exact⟨_,jE rfl qc mg (hex _ _ _ (lR xr) (Fv none)),wm⟩
   ·rw[show nz p.2=some p.2 from if_neg hz,hL] at C;simp only[ZG,seval,Oy,D,u,hh9];exact⟨_,jE rfl qc mg (hex _ _ _ (lR xr) (lR (by simp only[E8,seval,hh9]<;>rfl))),wm⟩
def aOR (x:Int):i64.wrap x<=9223372036854775807:=by
 rw[IntKind.wrap_i64];omega
def Bt (a b:Request):Prop:=a.due<b.due\/(a.due=b.due/\a.tagged.tag<b.tagged.tag)
def Jd:Nat->List Request->List Request
 | 0,l=>l
 | k+1,l=>if Bt (gx cS l ((k+1:Nat):Int)) (gx cS l (k:Int)) then Jd k ((l.set (k+1) (gx cS l (k:Int))).set k (gx cS l ((k+1:Nat):Int))) else l
theorem ZL:∀(k:Nat) (l:List Request),(Jd k l).length=l.length
 | 0,l=>rfl
 | k+1,l=>by
   unfold Jd;split
   ·rw[ZL k,length_set,length_set]
   ·rfl
def fh (t:State) (r:Request):Request:={ r with tries:=i64.wrap (r.tries+1),due:=u64.wrap (t.store.now+AL (i64.wrap (r.tries+1)) t.store.cFg.lim.qI)}
def fi (t:State) (ns:List Node) (R:List Request) (r:Request):State :=
 if ¬wG ns r.block then t else if t.store.cFg.lim.oV<=(R.length:Int) then { t with overflow:=true } else { t with iB:=ov aC (some (Jd R.length (R++[fh t r])))}
def aVo (h:TD t v Q R) (r:Request):aA prog 267 [bd t,ay r]=some (bd (fi t v.ns (ol R) r)):=by
 have W:=h.flat
 have p:=h.fl
 have nR:=h.nR
 have nR1:bg (ol R).length:=WF
 have OV:=aU1 h r.block
 have fr:Flat (ay r):=.agg _ (eD r)
 rw[cL func267 rfl aVp rfl];refine eM ?_
 by_cases g1:wG v.ns r.block
 case neg =>
  simp only[Z8,seval,OV,g1];exact⟨_,iI rfl mj mh (by simp only[sB,and_self,W]),by rw[fi,if_pos g1]⟩
 by_cases g2:t.store.cFg.lim.oV<=((ol R).length:Int)
 ·have hf2:Flat (bd ({ t with overflow:=true })):=(qM _).2 p
  simp only[Z8,seval,OV,g1,h.ret,g2];exact⟨_,iI rfl mi (by simp only[Z8,seval,p]<;>rfl) (by simp only[sB,and_self,p]),by rw[fi,if_neg (fun u=>u g1),if_pos g2,<- h.ret]⟩
 have C:fi t v.ns (ol R) r=_:=(if_neg (fun u=>u g1)).trans (if_neg g2)
 rw[C];have k321':=a2j (i64.wrap (r.tries+1)) t.store.cFg.lim.qI (aOR _)
 obtain⟨Y,hL0⟩:∃Y,ol R++[fh t r]=Y:=⟨_,rfl⟩
 have hlL:Y.length=(ol R).length+1:=by rw[<- hL0,length_append,length_cons,length_nil]
 have hL0':ol R++[({ tagged:=r.tagged,block:=r.block,tries:=i64.wrap (r.tries+1),due:=u64.wrap (t.store.now+AL (i64.wrap (r.tries+1)) t.store.cFg.lim.qI)}:Request)]=Y:=hL0
 rw[hL0];have w1:i64.wrap ((Y.length:Int)-1)=((ol R).length:Int):=cr
 simp only[Z8,seval,OV,g1,h.ret,g2,k321',mF,mG,rX _ nR1,mS _ _ _ _ nR1,hL0',w1];refine bP (fun m st=>∃(k:Nat) (l:List Request),(st.env 2=.ptr 2 0 0/\st.heap 2 0=some (.cells (aE t))/\st.env 4=.ptr 4 0 0/\st.heap 4 0=some (.cells (aE iS))/\st.env 5=.own 46 0/\st.heap 46 0=some (.row 102 35 l.length (aC l))/\st.env 6=aa k)/\Jd k l=Jd (ol R).length Y/\l.length=Y.length/\k<=(ol R).length/\m=k)
  (fun e st=>e=.exit 0/\∃(l:List Request),(st.env 2=.ptr 2 0 0/\st.heap 2 0=some (.cells (aE t))/\st.env 4=.ptr 4 0 0/\st.heap 4 0=some (.cells (aE iS))/\st.env 5=.own 46 0/\st.heap 46 0=some (.row 102 35 l.length (aC l)))/\l=Jd (ol R).length Y) (ol R).length ?step ?start ?rest
 case step =>
  rintro m st ⟨k,l,D,hb,hl,hk,hm⟩
  cases k with
  | zero =>
    have z0:¬((0:Int)<((0:Nat):Int)):=WF
    have hI':=D
    apply oT (.exit 0)
    ·simp only[Z8,seval,D,Int.lt_irrefl,mF,mG];rfl
    ·exact⟨rfl,l,XC,by rw[<- hb];rfl⟩
  | succ j =>
    obtain⟨i,hi⟩:∃i:Int,i=((j+1:Nat):Int):=⟨_,rfl⟩
    obtain⟨i',M⟩:∃i':Int,i'=(j:Int):=⟨_,rfl⟩
    rw[<- hi] at D;have p0:(0:Int)<i:=WF
    have X:(0:Int)<=i:=WF
    have J:i<(l.length:Int):=WF
    have S:(0:Int)<=i':=WF
    have N:i'<(l.length:Int):=WF
    have hw:i64.wrap (i-1)=i':=cr
    have ti:i.toNat=j+1:=WF
    have ti':i'.toNat=j:=WF
    obtain⟨a,ea⟩:∃a,gx cS l i=a:=⟨_,rfl⟩
    obtain⟨b,G⟩:∃b,gx cS l i'=b:=⟨_,rfl⟩
    have d1:=Bu (T:=23) (n:=l.length) (k:=1) (off:=34) X J AG ZB ZB
    have d2:=Bu (T:=23) (n:=l.length) (k:=1) (off:=34) S N AG ZB ZB
    have d3:=xF (T:=23) (n:=l.length) (k:=1) X J AG ZB ZB
    have d4:=xF (T:=23) (n:=l.length) (k:=1) S N AG ZB ZB
    have d5:=xF (T:=102) (n:=l.length) (k:=35) X J ZM ZB ZB
    have d6:=xF (T:=102) (n:=l.length) (k:=35) S N ZM ZB ZB
    rw[ea] at d1 d3 d5;rw[G] at d2 d4 d6;have aJ6:∀P:Prop,(Bt a b↔P)->Jd (j+1) l=if P then Jd j ((l.set (j+1) b).set j a) else l:=fun P hP=>by
     grind [Jd]
    have x3:i.toNat * 35+35<=l.length * 35:=WF
    have A:i'.toNat * 35+35<=(l.set i.toNat b).length * 35:=qg
    have x4':i'.toNat * 35+35<=l.length * 35:=WF
    have u1:=Qc l i b WF
    have u2:=Qc (l.set i.toNat b) i' a WF
    have swp:(l.set i.toNat b).set i'.toNat a=(l.set (j+1) b).set j a:=by rw[ti,ti']
    by_cases g3:a.due<b.due
    ·have wQ:=aJ6 True (iff_of_true (.inl g3) trivial)
     rw[if_pos trivial] at wQ
     apply oN (j)
     ·simp only[Z8,seval,D,p0,X,J,S,N,hw,d1,d2,d3,d4,d5,d6,g3,x3,A,x4',u1,u2,length_set,mF,mG];rfl
     ·exact⟨j,(l.set i.toNat b).set i'.toNat a,⟨XC,XC,XC,XC,XC,Qa5,yt⟩,qg,qg,WF,rfl⟩
    by_cases g4:a.due=b.due
    case neg =>
     have wQ:=aJ6 False (iff_of_false (fun x=>x.elim g3 fun y=>g4 y.1) id)
     rw[if_neg id] at wQ
     apply oT (.exit 0)
     ·simp only[Z8,seval,D,p0,X,J,S,N,hw,d1,d2,d3,d4,d5,d6,g3,bf g4,mF,mG];rfl
     ·exact⟨rfl,l,XC,by rw[<- hb,wQ]⟩
    by_cases g5:a.tagged.tag<b.tagged.tag
    ·have wQ:=aJ6 True (iff_of_true (.inr ⟨g4,g5⟩) trivial)
     rw[if_pos trivial] at wQ
     apply oN (j)
     ·simp only[Z8,seval,D,p0,X,J,S,N,hw,d1,d2,d3,d4,d5,d6,g3,bt g4,g5,x3,A,x4',u1,u2,length_set,mF,mG];rfl
     ·exact⟨j,(l.set i.toNat b).set i'.toNat a,⟨XC,XC,XC,XC,XC,Qa5,yt⟩,qg,qg,WF,rfl⟩
    ·have wQ:=aJ6 False (iff_of_false (fun x=>x.elim g3 fun y=>g5 y.2) id)
     rw[if_neg id] at wQ
     apply oT (.exit 0)
     ·simp only[Z8,seval,D,p0,X,J,S,N,hw,d1,d2,d3,d4,d5,d6,g3,bt g4,g5,mF,mG];rfl
     ·exact⟨rfl,l,XC,by rw[<- hb,wQ]⟩
 case start=>exact⟨(ol R).length,Y,Wl,rfl,rfl,WF,rfl⟩
 case rest =>
  rintro e st ⟨rfl,l,D,hl⟩
  have hex:=qJ l.length l
  subst hl;simp only[Z8,seval,D];exact⟨_,by apply jE;rfl;all_goals simp only[aI,Z8,seval,D,hex,p,dC,xE,fV,eG,bY,qJ,sB]<;>rfl,rfl⟩
end Go.Ab.Tryz
