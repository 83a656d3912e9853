/-
  Part 15 of the proof: an evaluator of programs, its soundness, and what functions of this program compute.
-/
import Derived.Test.YtmcjkemalibacaaGreatK14
import Derived.Test.YtmcjkemalibacaaGreatK13
import Derived.Test.YtmcjkemalibacaaGreatK12
set_option linter.all false
set_option maxRecDepth 20000
set_option maxHeartbeats 40000000
open Go.IntKind (i64 u64)
open List Go.Proofs.Tryz
noncomputable section
namespace Go.Ab.Tryz
open Classical Go.Proofs Go.Ab
structure TD (t:State) (v:SV) (Q R:Option (List Request)):Prop where
 sd:SD t.store v
 Ix:t.jA=ov aF Q
 ret:t.rW=ov aF R
 nQ:((ol Q).length:Int)<900000
 nR:((ol R).length:Int)<900000
def TD.fl {t:State} {v:SV} {Q R:Option (List Request)} (h:TD t v Q R):Flat t.store.cFg.iF/\Flat t.store.fP.dS/\Flat t.store.fP.gA/\Flat t.store.cM.early/\Flat t.store.cM.bN/\Flat t.store.tree.nodes/\Flat t.store.tables/\Flat t.jA/\Flat t.rW:=by
 obtain⟨h1,h2,h3,h4,h5,h6,h7⟩:=h.sd.fl
 exact⟨h1,h2,h3,h4,h5,h6,h7,by rw[h.Ix];exact jB Q,by rw[h.ret];exact jB R⟩
def TD.flat {t:State} {v:SV} {Q R:Option (List Request)} (h:TD t v Q R):Flat (.agg (aP t)):=(uV t).2 h.fl
def Bf (ns:List Node) (r:cC):Prop:=0<=aC ns r/\(nd ns (aC ns r)).status=0
def c85 {t:State} {v:SV} {Q R:Option (List Request)} (h:TD t v Q R) (r:cC):aG prog 85 [.agg (aP t),.agg (bC r)]=some (.v (.bool (decide (Bf v.ns r)))):=by
 have hr:=cS v.ns r
 rw[cL func85 rfl rfl];refine iA ?_
 by_cases g1:0<=aC v.ns r
 ·by_cases g2:(nd v.ns (aC v.ns r)).status=0
  ·simp only[Z8,seval,h.sd.tree,lY _ _ h.sd.nn,g1,hr.2,bt g2];exact⟨_,bT rfl,by simp[Bf,g1,g2]⟩
  ·simp only[Z8,seval,h.sd.tree,lY _ _ h.sd.nn,g1,hr.2,bf g2];exact⟨_,bT rfl,by simp[Bf,g1,g2]⟩
 ·simp only[Z8,seval,h.sd.tree,lY _ _ h.sd.nn,g1];exact⟨_,bT rfl,by simp[Bf,g1]⟩
def k85 {t:State} {v:SV} {Q R:Option (List Request)} (h:TD t v Q R) (r:cC) (st:St) (d:Option Nat):bH (aG prog) 85 [.agg (aP t),.agg (bC r)] st d=some { dst:=d,val:=.v (.bool (decide (Bf v.ns r)))}:=kx (c85 h r) (bB h.flat (rH r)) (.v _) st d
def aIj (t:State) (L:List Request) (r:cC) (n:Int):State:={ t with jA:=ov aF (some (L++[⟨⟨t.dB⟩,r,n,0⟩])),dB:=u64.wrap (t.dB+1)}
def c86 {t:State} {v:SV} {Q R:Option (List Request)} (h:TD t v Q R) (r:cC) (n:Int):aG prog 86 [.agg (aP t),.agg (bC r),.v (.int .i64 n)]=some (.agg (aP (aIj t (ol Q) r n))):=by
 have pH:=h.fl
 have nq:((ol Q).length:Int)<1000000:=by have:=h.nQ;omega
 rw[cL func86 rfl rfl];refine iA ?_
 simp only[Z8,seval,h.Ix,rS _ nq,uD _ _ _ _ nq];exact⟨_,by apply eG;rfl;all_goals simp only[aJ,Z8,seval,pH,bP,wS,gH,bM,cY,pZ,jE]<;>rfl,rfl⟩
def qA (ns:List Node) (l:List Request):List Request:=l.filter fun r=>decide (0<=aC ns r.block)
def c91 {t:State} {v:SV} {Q R:Option (List Request)} (h:TD t v Q R) (o:Option (List Request)) (hn:((ol o).length:Int)<1000000):aG prog 91 [.agg (aP t),ov aF o]=some (Rd 63 35 aF (qA v.ns (ol o))):=by
 rw[cL func91 rfl (by cases o<;>rfl)]
 refine iA ?_
 simp only[Z8,seval];refine cA (fun m st=>∃k:Nat,(st.env 2=.ptr 2 0 0/\st.heap 2 0=some (.cells (aP t))/\st.env 1=ov aF o/\st.env 6=.v (.int .i64 k))/\(((((ol o).take k).filter (fun r=>decide (0<=aC v.ns r.block)))=[]/\st.env 5=.v (.slice none 0 0))\/((((ol o).take k).filter (fun r=>decide (0<=aC v.ns r.block)))≠[]/\∃g,st.env 5=.own 29 g/\g<st.aQ 29/\st.heap 29 g=some (.row 63 35 (((ol o).take k).filter (fun r=>decide (0<=aC v.ns r.block))).length (aF (((ol o).take k).filter (fun r=>decide (0<=aC v.ns r.block)))))))/\k<=(ol o).length/\m=(ol o).length-k)
  (fun e st=>e=.exit 0/\(((((ol o).take (ol o).length).filter (fun r=>decide (0<=aC v.ns r.block)))=[]/\st.env 5=.v (.slice none 0 0))\/((((ol o).take (ol o).length).filter (fun r=>decide (0<=aC v.ns r.block)))≠[]/\∃g,st.env 5=.own 29 g/\g<st.aQ 29/\st.heap 29 g=some (.row 63 35 (((ol o).take (ol o).length).filter (fun r=>decide (0<=aC v.ns r.block))).length (aF (((ol o).take (ol o).length).filter (fun r=>decide (0<=aC v.ns r.block)))))))/\st.env 2=.ptr 2 0 0/\st.heap 2 0=some (.cells (aP t))/\st.env 1=ov aF o) ((ol o).length) ?step ?start ?rest
 case step =>
  rintro m st ⟨k,hI,h5,hk,hm⟩
  have Iv:(((((ol o).take k).filter (fun r=>decide (0<=aC v.ns r.block))).length:Nat):Int)<1000000:=by have:=length_filter_le (fun r=>decide (0<=aC v.ns r.block)) ((ol o).take k);have h2:=length_take_le' k (ol o);omega
  by_cases aW:(k:Int)<(ol o).length
  ·have q0:(0:Int)<=k:=by omega
   have hw:=wk (k:=k) (by omega)
   have hs:=zY dA (fun r=>decide (0<=aC v.ns r.block)) (ol o) k (by omega)
   by_cases hh:0<=aC v.ns (gx dA (ol o) (k:Int)).block
   ·rw[if_pos (decide_eq_true hh)] at hs;rcases h5 with ⟨hy,h5⟩|⟨hy,g,h5⟩
    ·rw[hy] at hs;apply oN ((ol o).length-(k+1))
     ·simp only[Z8,seval,hI,h5,aW,hw,q0,h.sd.tree,lY _ _ h.sd.nn,hh];rfl
     ·exact⟨k+1,by simp only[E8,seval,hI],.inr ⟨by rw[hs];simp,_,by simp only[E8,seval]<;>rfl,(by simp only[E8,seval]<;>omega),(by rw[hs];simp only[E8,seval]<;>rfl)⟩,by omega,rfl⟩
    ·apply oN ((ol o).length-(k+1))
     ·simp only[Z8,seval,hI,h5,Iv,aW,hw,q0,h.sd.tree,lY _ _ h.sd.nn,hh];rfl
     ·exact⟨k+1,by simp only[E8,seval,hI],.inr ⟨by rw[hs];simp,_,by simp only[E8,seval]<;>rfl,(by simp only[E8,seval]<;>omega),(by rw[hs];simp only[E8,seval]<;>rfl)⟩,by omega,rfl⟩
   ·rw[if_neg (by simpa using hh),append_nil] at hs
    apply oN ((ol o).length-(k+1))
    ·simp only[Z8,seval,hI,aW,hw,q0,h.sd.tree,lY _ _ h.sd.nn,hh];rfl
    ·exact⟨k+1,by simp only[E8,seval,hI],by rw[hs];simpa only[E8,seval] using h5,by omega,rfl⟩
  ·have Cn:k=(ol o).length:=by omega
   rw[Cn] at h5;apply oT (.exit 0)
   ·simp only[Z8,seval,hI,aW];rfl
   ·exact⟨rfl,by simpa only[E8,seval] using h5,by simp only[E8,seval,hI]⟩
 case start=>exact⟨0,by simp only[E8,seval]<;>rfl,.inl ⟨rfl,by simp only[E8,seval]⟩,by omega,by omega⟩
 case rest =>
  rintro e st ⟨rfl,⟨hy,h5⟩|⟨hy,g,h5,hg,Bz⟩,hI⟩
  ·rw[take_length] at hy;rw[show Rd 63 35 aF (qA v.ns (ol o))=.v (.slice none 0 0) from if_pos hy];simp only[Z8,seval,h5];exact⟨_,bT rfl (by simp only[E8,seval,h5]<;>rfl) (by first|exact .v _|simp only[jE,h5]),rfl⟩
  ·rw[take_length] at hy Bz;rw[show Rd 63 35 aF (qA v.ns (ol o))=.uniq 63 35 (qA v.ns (ol o)).length (aF (qA v.ns (ol o))) from if_neg hy];simp only[Z8,seval,h5];exact⟨_,uK rfl (by simp only[E8,seval,h5]<;>rfl) (by simp only[E8,seval,Bz]<;>rfl) (uY _),rfl⟩
def ZP (t:State) (v:SV) (Q R:Option (List Request)):State:={ t with jA:=ov aF (nz (qA v.ns (ol Q))),rW:=ov aF (nz (qA v.ns (ol R)))}
def c36 {t:State} {v:SV} {Q R:Option (List Request)} (h:TD t v Q R):aG prog 36 [.agg (aP t)]=some (.agg (aP (ZP t v Q R))):=by
 have pH:=h.fl
 have hf:=h.flat
 have cQ:=c91 h Q (by have:=h.nQ;omega)
 have cR:=c91 h R (by have:=h.nR;omega)
 rw[cL func36 rfl rfl];refine iA ?_
 by_cases e1:qA v.ns (ol Q)=[]
 ·rw[show Rd 63 35 aF (qA v.ns (ol Q))=.v (.slice none 0 0) from if_pos e1] at cQ;have z1:nz (qA v.ns (ol Q))=none:=if_pos e1
  have kQ:=kx cQ (bB hf (jB Q)) (.v _)
  by_cases e2:qA v.ns (ol R)=[]
  ·rw[show Rd 63 35 aF (qA v.ns (ol R))=.v (.slice none 0 0) from if_pos e2] at cR;have z2:nz (qA v.ns (ol R))=none:=if_pos e2
   have kR:=kx cR (bB hf (jB R)) (.v _)
   simp only[Z8,seval,h.Ix,h.ret,kQ,kR];exact⟨_,fM rfl (by simp only[E8,seval,pH]<;>rfl) (by simp only[Z8,seval,pH]<;>rfl) (by simp only[jE,and_self,pH]),by unfold ZP;rw[z1,z2];rfl⟩
  ·rw[show Rd 63 35 aF (qA v.ns (ol R))=.uniq 63 35 (qA v.ns (ol R)).length (aF (qA v.ns (ol R))) from if_neg e2] at cR;have z2:nz (qA v.ns (ol R))=some (qA v.ns (ol R)):=if_neg e2
   have kR:∀(st:St) (d:Nat),bH (aG prog) 91 [.agg (aP t),ov aF R] st (some d)=_:=fun st d=>jM (st:=st) (d:=d) (bB hf (jB R)) cR
   simp only[Z8,seval,h.Ix,h.ret,kQ,kR];exact⟨_,by apply eG;rfl;all_goals simp only[aJ,Z8,seval,pH,bP,wS,gH,bM,cY,pZ,jE]<;>rfl,by unfold ZP;rw[z1,z2];rfl⟩
 ·rw[show Rd 63 35 aF (qA v.ns (ol Q))=.uniq 63 35 (qA v.ns (ol Q)).length (aF (qA v.ns (ol Q))) from if_neg e1] at cQ;have z1:nz (qA v.ns (ol Q))=some (qA v.ns (ol Q)):=if_neg e1
  have kQ:∀(st:St) (d:Nat),bH (aG prog) 91 [.agg (aP t),ov aF Q] st (some d)=_:=fun st d=>jM (st:=st) (d:=d) (bB hf (jB Q)) cQ
  by_cases e2:qA v.ns (ol R)=[]
  ·rw[show Rd 63 35 aF (qA v.ns (ol R))=.v (.slice none 0 0) from if_pos e2] at cR;have z2:nz (qA v.ns (ol R))=none:=if_pos e2
   have kR:=kx cR (bB hf (jB R)) (.v _)
   simp only[Z8,seval,h.Ix,h.ret,kQ,kR];exact⟨_,by apply eG;rfl;all_goals simp only[aJ,Z8,seval,pH,bP,wS,gH,bM,cY,pZ,jE]<;>rfl,by unfold ZP;rw[z1,z2];rfl⟩
  ·rw[show Rd 63 35 aF (qA v.ns (ol R))=.uniq 63 35 (qA v.ns (ol R)).length (aF (qA v.ns (ol R))) from if_neg e2] at cR;have z2:nz (qA v.ns (ol R))=some (qA v.ns (ol R)):=if_neg e2
   have kR:∀(st:St) (d:Nat),bH (aG prog) 91 [.agg (aP t),ov aF R] st (some d)=_:=fun st d=>jM (st:=st) (d:=d) (bB hf (jB R)) cR
   simp only[Z8,seval,h.Ix,h.ret,kQ,kR];exact⟨_,by apply eG;rfl;all_goals simp only[aJ,Z8,seval,pH,bP,wS,gH,bM,cY,pZ,jE]<;>rfl,by unfold ZP;rw[z1,z2];rfl⟩
def TD.drp {t:State} {v:SV} {Q R:Option (List Request)} (h:TD t v Q R):TD (ZP t v Q R) v (nz (qA v.ns (ol Q))) (nz (qA v.ns (ol R))):=by
 have h1:=length_filter_le (fun r:Request=>decide (0<=aC v.ns r.block)) (ol Q)
 have h2:=length_filter_le (fun r:Request=>decide (0<=aC v.ns r.block)) (ol R)
 refine⟨h.sd,rfl,rfl, ?_, ?_⟩
 ·rw[mF];have:=h.nQ;unfold qA;omega
 ·rw[mF];have:=h.nR;unfold qA;omega
def I1 (ns:List Node) (p:Option (List Request) × Int) (r:cC):Option (List Request) × Int:=if Bf ns r then (some (ol p.1++[⟨⟨p.2⟩,r,0,0⟩]),u64.wrap (p.2+1)) else p
def Qj (ns:List Node) (p:Option (List Request) × Int) (l:List cC):Option (List Request) × Int:=l.foldl (I1 ns) p
def aA7 (ns:List Node) (a:Option (List Request) × Int) (l:List cC) (k:Nat) (h:k<l.length):Qj ns a (l.take (k+1))=I1 ns (Qj ns a (l.take k)) (gx cO l k):=by
 unfold Qj;rw[take_succ_eq_append_getElem h,foldl_append];simp[gx,h]
def ZQ (t:State) (p:Option (List Request) × Int):State:={ t with jA:=ov aF p.1,dB:=p.2 }
def TD.ZQ {t:State} {v:SV} {Q R:Option (List Request)} (h:TD t v Q R) (p:Option (List Request) × Int) (hn:((ol p.1).length:Int)<900000):TD (ZQ t p) v p.1 R:=⟨h.sd,rfl,h.ret,hn,h.nR⟩
def aIk {t:State} {v:SV} {Q R:Option (List Request)} (h:TD t v Q R):Tryz.ZQ t (Q,t.dB)=t:=by unfold Tryz.ZQ;simp only;rw[<- h.Ix]
def aEr (ns:List Node) (p:Option (List Request) × Int) (r:cC):(ol (I1 ns p r).1).length<=(ol p.1).length+1:=by
 unfold I1;split
 ·show (ol p.1++[_]).length<=_;rw[length_append,length_cons,length_nil];omega
 ·omega
def I2 (ns:List Node) (p:Option (List Request) × Int) (l:List cC):(ol (Qj ns p l).1).length<=(ol p.1).length+l.length:=by
 induction l generalizing p with
 | nil=>exact Nat.le_refl _
 | cons r l ih=>have h1:=ih (I1 ns p r);have h2:=aEr ns p r;rw[length_cons];show (ol (Qj ns (I1 ns p r) l).1).length<=_;omega
def c32 {t:State} {v:SV} {Q R:Option (List Request)} (h:TD t v Q R) (L:Option (List cC)) (hn:((ol Q).length:Int)+(ol L).length<800000):aG prog 32 [.agg (aP t),ov gX L]=some (.agg (aP (Tryz.ZQ t (Qj v.ns (Q,t.dB) (ol L))))):=by
 have hT:∀k:Nat,k<=(ol L).length->TD (Tryz.ZQ t (Qj v.ns (Q,t.dB) ((ol L).take k))) v (Qj v.ns (Q,t.dB) ((ol L).take k)).1 R:=fun k hk=>h.ZQ _ (by
  have:=I2 v.ns (Q,t.dB) ((ol L).take k);rw[length_take] at this;have e:ol (Q,t.dB).1=ol Q:=rfl;rw[e] at this;omega)
 rw[cL func32 rfl (by cases L<;>rfl)]
 refine iA ?_
 simp only[Z8,seval];refine cA (fun m st=>∃k:Nat,(st.env 1=ov gX L/\st.env 2=.ptr 2 0 0/\st.heap 2 0=some (.cells (aP (Tryz.ZQ t (Qj v.ns (Q,t.dB) ((ol L).take k)))))/\st.env 4=.ptr 4 0 0/\st.heap 4 0=some (.cells (aP lZ))/\st.env 5=.v (.int .i64 k))/\k<=(ol L).length/\m=(ol L).length-k)
  (fun e st=>e=.exit 0/\(st.env 2=.ptr 2 0 0/\st.heap 2 0=some (.cells (aP (Tryz.ZQ t (Qj v.ns (Q,t.dB) (ol L)))))/\st.env 4=.ptr 4 0 0/\st.heap 4 0=some (.cells (aP lZ)))) (ol L).length ?step ?start ?rest
 case step =>
  rintro m st ⟨k,hI,hk,hm⟩
  by_cases aW:(k:Int)<(ol L).length
  ·have q0:(0:Int)<=k:=by omega
   have hw:=wk (k:=k) (by omega)
   have hs:=aA7 v.ns (Q,t.dB) (ol L) k (by omega)
   have hTk:=hT k hk
   have P8:=k85 hTk (gx cO (ol L) (k:Int))
   by_cases g1:Bf v.ns (gx cO (ol L) (k:Int))
   ·have hT1:=hT (k+1) (by omega)
    have k86':=kx (c86 hTk (gx cO (ol L) (k:Int)) 0) (mM hTk.flat (rH _) (.v _)) (by
     have:aIj (Tryz.ZQ t (Qj v.ns (Q,t.dB) ((ol L).take k))) (ol (Qj v.ns (Q,t.dB) ((ol L).take k)).1) (gx cO (ol L) (k:Int)) 0=Tryz.ZQ t (Qj v.ns (Q,t.dB) ((ol L).take (k+1))):=by rw[hs,I1,if_pos g1];rfl
     rw[this];exact hT1.flat)
    have he:aIj (Tryz.ZQ t (Qj v.ns (Q,t.dB) ((ol L).take k))) (ol (Qj v.ns (Q,t.dB) ((ol L).take k)).1) (gx cO (ol L) (k:Int)) 0=Tryz.ZQ t (Qj v.ns (Q,t.dB) ((ol L).take (k+1))):=by rw[hs,I1,if_pos g1];rfl
    rw[he] at k86'
    apply oN ((ol L).length-(k+1))
    ·simp only[Z8,seval,hI,aW,q0,P8,g1,k86',hw];rfl
    ·exact⟨k+1,by simp only[E8,seval,hI],by omega,rfl⟩
   ·rw[I1,if_neg g1] at hs;apply oN ((ol L).length-(k+1))
    ·simp only[Z8,seval,hI,aW,q0,P8,g1,hw];rfl
    ·exact⟨k+1,by simp only[E8,seval,hI,hs],by omega,rfl⟩
  ·have Cn:k=(ol L).length:=by omega
   rw[Cn,take_length] at hI;apply oT (.exit 0)
   ·simp only[Z8,seval,hI,Int.lt_irrefl];rfl
   ·exact⟨rfl,by simp only[E8,seval,hI]⟩
 case start=>exact⟨0,by rw[take_zero,show Qj v.ns (Q,t.dB) []=(Q,t.dB) from rfl,aIk h];simp only[E8,seval]<;>rfl,by omega,by omega⟩
 case rest =>
  rintro e st ⟨rfl,hI⟩
  have hT1:=(hT (ol L).length (Nat.le_refl _)).fl
  rw[take_length] at hT1;simp only[Z8,seval,hI];exact⟨_,fM rfl (by simp only[E8,seval,hI,hT1]<;>rfl) (by simp only[Z8,seval,hI,hT1]<;>rfl) (by simp only[jE,and_self,hI,hT1]),rfl⟩
def RS (b:Int):Nat->Int->Int
 | 0,d=>d
 | n+1,d=>if u64.wrap (b-d)<=d then b else RS b n (u64.wrap (2 * d))
def ZR (n b:Int):Int:=if b=0 then 0 else RS b (n-1).toNat 1
def aQZ (n b:Int) (hn:n<=9223372036854775807):aG prog 143 [.v (.int .i64 n),.v (.int .u64 b)]=some (.v (.int .u64 (ZR n b))):=by
 rw[cL func143 rfl rfl];refine iA ?_
 by_cases g0:b=0
 ·simp only[Z8,seval,bt g0];exact⟨_,bT rfl,by rw[ZR,if_pos g0]⟩
 simp only[Z8,seval,bf g0];refine cA (fun m st=>∃(k:Nat) (d i:Int),(st.env 0=.v (.int .i64 n)/\st.env 1=.v (.int .u64 b)/\st.env 5=.v (.int .u64 d)/\st.env 6=.v (.int .i64 i))/\i=k+1/\RS b ((n-1).toNat-k) d=RS b (n-1).toNat 1/\k<=(n-1).toNat/\m=(n-1).toNat-k)
  (fun e st=>(e=.ret/\st.env 4=.v (.int .u64 (RS b (n-1).toNat 1)))\/(e=.exit 0/\st.env 5=.v (.int .u64 (RS b (n-1).toNat 1)))) (n-1).toNat ?step ?start ?rest
 case step =>
  rintro m st ⟨k,d,i,hI,hi,hd,hk,hm⟩
  by_cases aW:i<n
  ·have hw:i64.wrap (i+1)=i+1:=Ty _ (by omega) (by omega)
   have e1:(n-1).toNat-k=((n-1).toNat-(k+1))+1:=by omega
   rw[e1,RS] at hd;by_cases g1:u64.wrap (b-d)<=d
   ·rw[if_pos g1] at hd;apply oT (.ret)
    ·simp only[Z8,seval,hI,aW,g1];rfl
    ·exact .inl ⟨rfl,by rw[<- hd];simp only[E8,seval]⟩
   ·rw[if_neg g1] at hd;apply oN ((n-1).toNat-(k+1))
    ·simp only[Z8,seval,hI,aW,g1,hw];rfl
    ·exact⟨k+1,_,i+1,by and_intros<;>(simp only[E8,seval,hI]<;>rfl),by omega,hd,by omega,rfl⟩
  ·have e1:(n-1).toNat-k=0:=by omega
   rw[e1,RS] at hd;apply oT (.exit 0)
   ·simp only[Z8,seval,hI,aW];rfl
   ·exact .inr ⟨rfl,by rw[<- hd];simp only[E8,seval,hI]⟩
 case start=>exact⟨0,1,1,by and_intros<;>(simp only[E8,seval]<;>rfl),rfl,rfl,by omega,by omega⟩
 case rest =>
  rintro e st (⟨rfl,h⟩|⟨rfl,h⟩)
  ·simp only[Z8,seval,h];exact⟨_,bT rfl (by simp only[E8,seval,h]<;>rfl) (by first|exact .v _|simp only[jE,h]),by rw[ZR,if_neg g0]⟩
  ·simp only[Z8,seval,h];exact⟨_,bT rfl (by simp only[E8,seval,h]<;>rfl) (by first|exact .v _|simp only[jE,h]),by rw[ZR,if_neg g0]⟩
def aQ0 (n b:Int) (hn:n<=9223372036854775807) (st:St) (d:Option Nat):bH (aG prog) 143 [.v (.int .i64 n),.v (.int .u64 b)] st d=some { dst:=d,val:=.v (.int .u64 (ZR n b))}:=kx (aQZ n b hn) (bB (.v _) (.v _)) (.v _) st d
def x37 {s:aL} {v:SV} {q:Int} (h:GI s v q) (r:RG s v) (hB:0<(ol v.B).length/\(ol v.B).length<=64) (k:Int) (hk:0<=k):∃x,aG prog 37 [.agg (aA s),.v (.int .i64 k)]=some x/\∃(a:rX) (V:List Int),x=.agg (iD a)/\a.eM=ov aM (some V)/\(V.length:Int)<=1000/\Rg a.slot/\Rg a.target.aE:=by
 have hn:=h.sd.nn
 have hp:(0:Int)<(v.ns.length:Int):=by have:=h.pos;omega
 have gJ:¬((v.ns.length:Int)=0):=by omega
 obtain⟨m1,m2⟩:=cU (n:=(v.ns.length:Int)) hk hp
 obtain⟨i,hi⟩:∃i,k.tmod (v.ns.length:Int)=i:=⟨_,rfl⟩
 rw[hi] at m1 m2;obtain⟨m3,m4⟩:=cU (n:=(v.ns.length:Int)) (Cm hk (min 4 i64.bits)) hp
 have Qi:=h.sp
 obtain⟨l,kl,hl⟩:=k45 (ol v.B).length ((k).fdiv (2 ^ min 3 i64.bits)) (by omega) (by omega)
 have nl:(l.length:Int)<1000000:=by omega
 have rn:Rg s.now:=⟨r.now.1,by have:=r.now.2;omega⟩
 rw[cL func37 rfl rfl];by_cases g1:0<((((k).fdiv (2 ^ min 9 i64.bits))).tmod 4)
 case neg =>
  obtain⟨y,hy,c,rfl,rc⟩:=x92 h r i (u64.wrap ((s.now).tdiv s.cFg.jS)) (iM _)
  have Uv:=kx hy (mM h.sd.flat (.v _) (.v _)) (.agg _ (bR _))
  by_cases d0:((((k).fdiv (2 ^ min 12 i64.bits))).tmod 20)=0
  ·simp only[Z8,seval,h.sd.tree,h.sd.iF,gJ,hi,m1,m2,kl,g1,Qi,Uv,bt d0];exact⟨_,by apply eG;rfl;all_goals simp only[aJ,Z8,seval,bP,mA,bM,cY,kE,jE]<;>rfl,_,l,rfl,rfl,by omega,rn,iM _⟩
  by_cases d1:((((k).fdiv (2 ^ min 12 i64.bits))).tmod 20)=1
  ·simp only[Z8,seval,h.sd.tree,h.sd.iF,gJ,hi,m1,m2,kl,g1,Qi,Uv,bf d0,bt d1,Tw];exact⟨_,by apply eG;rfl;all_goals simp only[aJ,Z8,seval,bP,mA,bM,cY,kE,jE]<;>rfl,_,l,rfl,rfl,by omega,rn,rc⟩
  by_cases d2:((((k).fdiv (2 ^ min 12 i64.bits))).tmod 20)=2
  ·simp only[Z8,seval,h.sd.tree,h.sd.iF,gJ,hi,m1,m2,kl,g1,Qi,Uv,bf d0,bf d1,bt d2,m3,m4];exact⟨_,by apply eG;rfl;all_goals simp only[aJ,Z8,seval,bP,mA,bM,cY,kE,jE]<;>rfl,_,l,rfl,rfl,by omega,rn,rc⟩
  by_cases d3:((((k).fdiv (2 ^ min 12 i64.bits))).tmod 20)=3
  ·simp only[Z8,seval,h.sd.tree,h.sd.iF,gJ,hi,m1,m2,kl,g1,Qi,Uv,bf d0,bf d1,bf d2,bt d3];exact⟨_,by apply eG;rfl;all_goals simp only[aJ,Z8,seval,bP,mA,bM,cY,kE,jE]<;>rfl,_,l,rfl,rfl,by omega,iM _,rc⟩
  by_cases d4:((((k).fdiv (2 ^ min 12 i64.bits))).tmod 20)=4
  ·simp only[Z8,seval,h.sd.tree,h.sd.iF,gJ,hi,m1,m2,kl,g1,Qi,Uv,bf d0,bf d1,bf d2,bf d3,bt d4,He _ _ _ _ nl];exact⟨_,by apply eG;rfl;all_goals simp only[aJ,Z8,seval,bP,mA,bM,cY,kE,jE]<;>rfl,_,l++[((((k).fdiv (2 ^ min 17 i64.bits))).tmod 9)],rfl,rfl,by rw[length_append,length_cons,length_nil];omega,rn,rc⟩
  simp only[Z8,seval,h.sd.tree,h.sd.iF,gJ,hi,m1,m2,kl,g1,Qi,Uv,bf d0,bf d1,bf d2,bf d3,bf d4];exact⟨_,by apply eG;rfl;all_goals simp only[aJ,Z8,seval,bP,mA,bM,cY,kE,jE]<;>rfl,_,l,rfl,rfl,by omega,rn,rc⟩
 by_cases g2:0<s.now
 case neg =>
  obtain⟨y,hy,c,rfl,rc⟩:=x92 h r i (u64.wrap ((s.now).tdiv s.cFg.jS)) (iM _)
  have Uv:=kx hy (mM h.sd.flat (.v _) (.v _)) (.agg _ (bR _))
  by_cases d0:((((k).fdiv (2 ^ min 12 i64.bits))).tmod 20)=0
  ·simp only[Z8,seval,h.sd.tree,h.sd.iF,gJ,hi,m1,m2,kl,g1,g2,Qi,Uv,bt d0];exact⟨_,by apply eG;rfl;all_goals simp only[aJ,Z8,seval,bP,mA,bM,cY,kE,jE]<;>rfl,_,l,rfl,rfl,by omega,rn,iM _⟩
  by_cases d1:((((k).fdiv (2 ^ min 12 i64.bits))).tmod 20)=1
  ·simp only[Z8,seval,h.sd.tree,h.sd.iF,gJ,hi,m1,m2,kl,g1,g2,Qi,Uv,bf d0,bt d1,Tw];exact⟨_,by apply eG;rfl;all_goals simp only[aJ,Z8,seval,bP,mA,bM,cY,kE,jE]<;>rfl,_,l,rfl,rfl,by omega,rn,rc⟩
  by_cases d2:((((k).fdiv (2 ^ min 12 i64.bits))).tmod 20)=2
  ·simp only[Z8,seval,h.sd.tree,h.sd.iF,gJ,hi,m1,m2,kl,g1,g2,Qi,Uv,bf d0,bf d1,bt d2,m3,m4];exact⟨_,by apply eG;rfl;all_goals simp only[aJ,Z8,seval,bP,mA,bM,cY,kE,jE]<;>rfl,_,l,rfl,rfl,by omega,rn,rc⟩
  by_cases d3:((((k).fdiv (2 ^ min 12 i64.bits))).tmod 20)=3
  ·simp only[Z8,seval,h.sd.tree,h.sd.iF,gJ,hi,m1,m2,kl,g1,g2,Qi,Uv,bf d0,bf d1,bf d2,bt d3];exact⟨_,by apply eG;rfl;all_goals simp only[aJ,Z8,seval,bP,mA,bM,cY,kE,jE]<;>rfl,_,l,rfl,rfl,by omega,iM _,rc⟩
  by_cases d4:((((k).fdiv (2 ^ min 12 i64.bits))).tmod 20)=4
  ·simp only[Z8,seval,h.sd.tree,h.sd.iF,gJ,hi,m1,m2,kl,g1,g2,Qi,Uv,bf d0,bf d1,bf d2,bf d3,bt d4,He _ _ _ _ nl];exact⟨_,by apply eG;rfl;all_goals simp only[aJ,Z8,seval,bP,mA,bM,cY,kE,jE]<;>rfl,_,l++[((((k).fdiv (2 ^ min 17 i64.bits))).tmod 9)],rfl,rfl,by rw[length_append,length_cons,length_nil];omega,rn,rc⟩
  simp only[Z8,seval,h.sd.tree,h.sd.iF,gJ,hi,m1,m2,kl,g1,g2,Qi,Uv,bf d0,bf d1,bf d2,bf d3,bf d4];exact⟨_,by apply eG;rfl;all_goals simp only[aJ,Z8,seval,bP,mA,bM,cY,kE,jE]<;>rfl,_,l,rfl,rfl,by omega,rn,rc⟩
 obtain⟨y,hy,c,rfl,rc⟩:=x92 h r i (u64.wrap ((u64.wrap (s.now-1)).tdiv s.cFg.jS)) (iM _)
 have Uv:=kx hy (mM h.sd.flat (.v _) (.v _)) (.agg _ (bR _))
 by_cases d0:((((k).fdiv (2 ^ min 12 i64.bits))).tmod 20)=0
 ·simp only[Z8,seval,h.sd.tree,h.sd.iF,gJ,hi,m1,m2,kl,g1,g2,Qi,Uv,bt d0];exact⟨_,by apply eG;rfl;all_goals simp only[aJ,Z8,seval,bP,mA,bM,cY,kE,jE]<;>rfl,_,l,rfl,rfl,by omega,iM _,iM _⟩
 by_cases d1:((((k).fdiv (2 ^ min 12 i64.bits))).tmod 20)=1
 ·simp only[Z8,seval,h.sd.tree,h.sd.iF,gJ,hi,m1,m2,kl,g1,g2,Qi,Uv,bf d0,bt d1,Tw];exact⟨_,by apply eG;rfl;all_goals simp only[aJ,Z8,seval,bP,mA,bM,cY,kE,jE]<;>rfl,_,l,rfl,rfl,by omega,iM _,rc⟩
 by_cases d2:((((k).fdiv (2 ^ min 12 i64.bits))).tmod 20)=2
 ·simp only[Z8,seval,h.sd.tree,h.sd.iF,gJ,hi,m1,m2,kl,g1,g2,Qi,Uv,bf d0,bf d1,bt d2,m3,m4];exact⟨_,by apply eG;rfl;all_goals simp only[aJ,Z8,seval,bP,mA,bM,cY,kE,jE]<;>rfl,_,l,rfl,rfl,by omega,iM _,rc⟩
 by_cases d3:((((k).fdiv (2 ^ min 12 i64.bits))).tmod 20)=3
 ·simp only[Z8,seval,h.sd.tree,h.sd.iF,gJ,hi,m1,m2,kl,g1,g2,Qi,Uv,bf d0,bf d1,bf d2,bt d3];exact⟨_,by apply eG;rfl;all_goals simp only[aJ,Z8,seval,bP,mA,bM,cY,kE,jE]<;>rfl,_,l,rfl,rfl,by omega,iM _,rc⟩
 by_cases d4:((((k).fdiv (2 ^ min 12 i64.bits))).tmod 20)=4
 ·simp only[Z8,seval,h.sd.tree,h.sd.iF,gJ,hi,m1,m2,kl,g1,g2,Qi,Uv,bf d0,bf d1,bf d2,bf d3,bt d4,He _ _ _ _ nl];exact⟨_,by apply eG;rfl;all_goals simp only[aJ,Z8,seval,bP,mA,bM,cY,kE,jE]<;>rfl,_,l++[((((k).fdiv (2 ^ min 17 i64.bits))).tmod 9)],rfl,rfl,by rw[length_append,length_cons,length_nil];omega,iM _,rc⟩
 simp only[Z8,seval,h.sd.tree,h.sd.iF,gJ,hi,m1,m2,kl,g1,g2,Qi,Uv,bf d0,bf d1,bf d2,bf d3,bf d4];exact⟨_,by apply eG;rfl;all_goals simp only[aJ,Z8,seval,bP,mA,bM,cY,kE,jE]<;>rfl,_,l,rfl,rfl,by omega,iM _,rc⟩
def iV {call:Nat->List AV->Option AV} {ops:Array Oper} {st:St} {T:Nat} {pos:String} {fB:Array Edge} (d:Nat):cI prog call ops ⟨some d,.buildSlice 22 6 #[(0,.const (.int .i64 1)),(1,.const (.int .i64 1)),(2,.const (.int .i64 2)),(3,.const (.int .i64 2)),(4,.const (.int .i64 3)),(5,.const (.int .i64 4))],T,pos,fB,none⟩ st =
 some ((st.new d (.row 3 1 6 (aM [1,1,2,2,3,4]))).put (some d) (.own d (st.aQ d))):=by
 rw[lC];simp[Oh,ze3,cT,St.ev,AV.jH,Value.oneCell',gS,AV.cells,List.range,List.range.loop,aM,rK]
def x25 {t:State} {v:SV} {Q R:Option (List Request)} {q:Int} (hT:TD t v Q R) (h:GI t.store v q) (hq:∀r∈ol Q,Rg r.tagged.tag) (k:Int) (hk:0<=k):∃x,aG prog 25 [.agg (aP t),.v (.int .i64 k)]=some x/\∃w:gV,x=.agg (dK w)/\Rg w.tagged.tag:=by
 have hn:=h.sd.nn
 have hp:(0:Int)<(v.ns.length:Int):=by have:=h.pos;omega
 have gJ:¬((v.ns.length:Int)=0):=by omega
 obtain⟨m1,m2⟩:=cU (n:=(v.ns.length:Int)) hk hp
 obtain⟨j0,j1⟩:=cU (n:=6) (Cm hk (min 4 i64.bits)) (by omega)
 obtain⟨j,hj⟩:∃j,((((k).fdiv (2 ^ min 4 i64.bits))).tmod 6)=j:=⟨_,rfl⟩
 rw[hj] at j0 j1;have g6:=oI (l:=[1,1,2,2,3,4]) j0 (by show j<((6:Nat):Int);omega)
 have fv:∀w:gV,Flat (.agg (dK w))=True:=fun w=>eq_true (.agg _ (jW w))
 have Z2:=iM (k.tmod 9)
 rw[cG func25 rfl rfl]
 by_cases g1:(0:Int)<((ol Q).length:Int)
 case neg =>
  by_cases p0:0<=aC v.ns ((nd v.ns (k.tmod (v.ns.length:Int))).block.root)
  case neg =>
   have kp:=fun st d=>M3 v.ns (aC v.ns ((nd v.ns (k.tmod (v.ns.length:Int))).block.root)) (fun hh=>p0 hh.1) st d
   by_cases e2:((((k).fdiv (2 ^ min 14 i64.bits))).tmod 16)=0
   ·simp only[ZG,seval,Im,iV,hj,j0,j1,g6,hT.Ix,h.sd.tree,gJ,m1,m2,lY _ _ hn,g1,kp,bt e2,Tw];exact⟨_,fM rfl (by simp only[E8,seval,fv]<;>rfl) (by simp only[Z8,seval,fv]<;>rfl) (by simp only[jE,and_self,fv]),_,rfl,Z2⟩
   simp only[ZG,seval,Im,iV,hj,j0,j1,g6,hT.Ix,h.sd.tree,gJ,m1,m2,lY _ _ hn,g1,kp,bf e2];exact⟨_,fM rfl (by simp only[E8,seval,fv]<;>rfl) (by simp only[Z8,seval,fv]<;>rfl) (by simp only[jE,and_self,fv]),_,rfl,Z2⟩
  have pr:=cS v.ns ((nd v.ns (k.tmod (v.ns.length:Int))).block.root)
  have kp:=fun st d=>k76 v.ns h.up hn (aC v.ns ((nd v.ns (k.tmod (v.ns.length:Int))).block.root)) p0 pr.2 st d
  have pm:=nH h.up p0 pr.2
  have prg:∀x∈path v.ns (aC v.ns ((nd v.ns (k.tmod (v.ns.length:Int))).block.root)),0<=x/\x<v.ns.length:=fun x hx=>rI h.up hx
  have pl:=Cl h.up (aC v.ns ((nd v.ns (k.tmod (v.ns.length:Int))).block.root))
  obtain⟨p,ep⟩:∃p,path v.ns (aC v.ns ((nd v.ns (k.tmod (v.ns.length:Int))).block.root))=p:=⟨_,rfl⟩
  rw[ep] at kp pm prg pl;have l0:(0:Int)<(p.length:Int):=by have:=length_pos_of_mem pm;omega
  have lne:¬((p.length:Int)=0):=by omega
  by_cases e1:0<((((k).fdiv (2 ^ min 14 i64.bits))).tmod 4)
  case neg =>
   by_cases e2:((((k).fdiv (2 ^ min 14 i64.bits))).tmod 16)=0
   ·simp only[ZG,seval,Im,iV,hj,j0,j1,g6,hT.Ix,h.sd.tree,gJ,m1,m2,lY _ _ hn,g1,kp,l0,e1,bt e2,Tw];exact⟨_,fM rfl (by simp only[E8,seval,fv]<;>rfl) (by simp only[Z8,seval,fv]<;>rfl) (by simp only[jE,and_self,fv]),_,rfl,Z2⟩
   simp only[ZG,seval,Im,iV,hj,j0,j1,g6,hT.Ix,h.sd.tree,gJ,m1,m2,lY _ _ hn,g1,kp,l0,e1,bf e2];exact⟨_,fM rfl (by simp only[E8,seval,fv]<;>rfl) (by simp only[Z8,seval,fv]<;>rfl) (by simp only[jE,and_self,fv]),_,rfl,Z2⟩
  obtain⟨x1,x2⟩:=cU (n:=(p.length:Int)) (Cm hk (min 16 i64.bits)) l0
  obtain⟨y,hy⟩:∃y,((((k).fdiv (2 ^ min 16 i64.bits))).tmod (p.length:Int))=y:=⟨_,rfl⟩
  rw[hy] at x1 x2;have gp:=oI x1 x2
  obtain⟨z1,z2⟩:=prg (it p y) (by obtain⟨h1,h2⟩:=yR x1 x2;rw[h2];exact getElem_mem h1)
  by_cases e2:((((k).fdiv (2 ^ min 14 i64.bits))).tmod 16)=0
  ·simp only[ZG,seval,Im,iV,hj,j0,j1,g6,hT.Ix,h.sd.tree,gJ,m1,m2,lY _ _ hn,g1,kp,l0,lne,e1,hy,x1,x2,gp,z1,z2,bt e2,Tw];exact⟨_,fM rfl (by simp only[E8,seval,fv]<;>rfl) (by simp only[Z8,seval,fv]<;>rfl) (by simp only[jE,and_self,fv]),_,rfl,Z2⟩
  simp only[ZG,seval,Im,iV,hj,j0,j1,g6,hT.Ix,h.sd.tree,gJ,m1,m2,lY _ _ hn,g1,kp,l0,lne,e1,hy,x1,x2,gp,z1,z2,bf e2];exact⟨_,fM rfl (by simp only[E8,seval,fv]<;>rfl) (by simp only[Z8,seval,fv]<;>rfl) (by simp only[jE,and_self,fv]),_,rfl,Z2⟩
 by_cases g2:0<((((k).fdiv (2 ^ min 8 i64.bits))).tmod 8)
 case neg =>
  by_cases p0:0<=aC v.ns ((nd v.ns (k.tmod (v.ns.length:Int))).block.root)
  case neg =>
   have kp:=fun st d=>M3 v.ns (aC v.ns ((nd v.ns (k.tmod (v.ns.length:Int))).block.root)) (fun hh=>p0 hh.1) st d
   by_cases e2:((((k).fdiv (2 ^ min 14 i64.bits))).tmod 16)=0
   ·simp only[ZG,seval,Im,iV,hj,j0,j1,g6,hT.Ix,h.sd.tree,gJ,m1,m2,lY _ _ hn,g1,g2,kp,bt e2,Tw];exact⟨_,fM rfl (by simp only[E8,seval,fv]<;>rfl) (by simp only[Z8,seval,fv]<;>rfl) (by simp only[jE,and_self,fv]),_,rfl,Z2⟩
   simp only[ZG,seval,Im,iV,hj,j0,j1,g6,hT.Ix,h.sd.tree,gJ,m1,m2,lY _ _ hn,g1,g2,kp,bf e2];exact⟨_,fM rfl (by simp only[E8,seval,fv]<;>rfl) (by simp only[Z8,seval,fv]<;>rfl) (by simp only[jE,and_self,fv]),_,rfl,Z2⟩
  have pr:=cS v.ns ((nd v.ns (k.tmod (v.ns.length:Int))).block.root)
  have kp:=fun st d=>k76 v.ns h.up hn (aC v.ns ((nd v.ns (k.tmod (v.ns.length:Int))).block.root)) p0 pr.2 st d
  have pm:=nH h.up p0 pr.2
  have prg:∀x∈path v.ns (aC v.ns ((nd v.ns (k.tmod (v.ns.length:Int))).block.root)),0<=x/\x<v.ns.length:=fun x hx=>rI h.up hx
  have pl:=Cl h.up (aC v.ns ((nd v.ns (k.tmod (v.ns.length:Int))).block.root))
  obtain⟨p,ep⟩:∃p,path v.ns (aC v.ns ((nd v.ns (k.tmod (v.ns.length:Int))).block.root))=p:=⟨_,rfl⟩
  rw[ep] at kp pm prg pl;have l0:(0:Int)<(p.length:Int):=by have:=length_pos_of_mem pm;omega
  have lne:¬((p.length:Int)=0):=by omega
  by_cases e1:0<((((k).fdiv (2 ^ min 14 i64.bits))).tmod 4)
  case neg =>
   by_cases e2:((((k).fdiv (2 ^ min 14 i64.bits))).tmod 16)=0
   ·simp only[ZG,seval,Im,iV,hj,j0,j1,g6,hT.Ix,h.sd.tree,gJ,m1,m2,lY _ _ hn,g1,g2,kp,l0,e1,bt e2,Tw];exact⟨_,fM rfl (by simp only[E8,seval,fv]<;>rfl) (by simp only[Z8,seval,fv]<;>rfl) (by simp only[jE,and_self,fv]),_,rfl,Z2⟩
   simp only[ZG,seval,Im,iV,hj,j0,j1,g6,hT.Ix,h.sd.tree,gJ,m1,m2,lY _ _ hn,g1,g2,kp,l0,e1,bf e2];exact⟨_,fM rfl (by simp only[E8,seval,fv]<;>rfl) (by simp only[Z8,seval,fv]<;>rfl) (by simp only[jE,and_self,fv]),_,rfl,Z2⟩
  obtain⟨x1,x2⟩:=cU (n:=(p.length:Int)) (Cm hk (min 16 i64.bits)) l0
  obtain⟨y,hy⟩:∃y,((((k).fdiv (2 ^ min 16 i64.bits))).tmod (p.length:Int))=y:=⟨_,rfl⟩
  rw[hy] at x1 x2;have gp:=oI x1 x2
  obtain⟨z1,z2⟩:=prg (it p y) (by obtain⟨h1,h2⟩:=yR x1 x2;rw[h2];exact getElem_mem h1)
  by_cases e2:((((k).fdiv (2 ^ min 14 i64.bits))).tmod 16)=0
  ·simp only[ZG,seval,Im,iV,hj,j0,j1,g6,hT.Ix,h.sd.tree,gJ,m1,m2,lY _ _ hn,g1,g2,kp,l0,lne,e1,hy,x1,x2,gp,z1,z2,bt e2,Tw];exact⟨_,fM rfl (by simp only[E8,seval,fv]<;>rfl) (by simp only[Z8,seval,fv]<;>rfl) (by simp only[jE,and_self,fv]),_,rfl,Z2⟩
  simp only[ZG,seval,Im,iV,hj,j0,j1,g6,hT.Ix,h.sd.tree,gJ,m1,m2,lY _ _ hn,g1,g2,kp,l0,lne,e1,hy,x1,x2,gp,z1,z2,bf e2];exact⟨_,fM rfl (by simp only[E8,seval,fv]<;>rfl) (by simp only[Z8,seval,fv]<;>rfl) (by simp only[jE,and_self,fv]),_,rfl,Z2⟩
 have qne:¬(((ol Q).length:Int)=0):=by omega
 obtain⟨c1,c2⟩:=cU (n:=((ol Q).length:Int)) (Cm hk (min 11 i64.bits)) g1
 obtain⟨c,hc⟩:∃c,((((k).fdiv (2 ^ min 11 i64.bits))).tmod ((ol Q).length:Int))=c:=⟨_,rfl⟩
 rw[hc] at c1 c2;have rTB:Rg (gx dA (ol Q) c).tagged.tag:=hq _ (nC c1 c2)
 by_cases p0:0<=aC v.ns ((gx dA (ol Q) c).block)
 case neg =>
  have kp:=fun st d=>M3 v.ns (aC v.ns ((gx dA (ol Q) c).block)) (fun hh=>p0 hh.1) st d
  by_cases e2:((((k).fdiv (2 ^ min 14 i64.bits))).tmod 16)=0
  ·simp only[ZG,seval,Im,iV,hj,j0,j1,g6,hT.Ix,h.sd.tree,gJ,m1,m2,lY _ _ hn,g1,g2,qne,hc,c1,c2,kp,bt e2,Tw];exact⟨_,fM rfl (by simp only[E8,seval,fv]<;>rfl) (by simp only[Z8,seval,fv]<;>rfl) (by simp only[jE,and_self,fv]),_,rfl,rTB⟩
  simp only[ZG,seval,Im,iV,hj,j0,j1,g6,hT.Ix,h.sd.tree,gJ,m1,m2,lY _ _ hn,g1,g2,qne,hc,c1,c2,kp,bf e2];exact⟨_,fM rfl (by simp only[E8,seval,fv]<;>rfl) (by simp only[Z8,seval,fv]<;>rfl) (by simp only[jE,and_self,fv]),_,rfl,rTB⟩
 have pr:=cS v.ns ((gx dA (ol Q) c).block)
 have kp:=fun st d=>k76 v.ns h.up hn (aC v.ns ((gx dA (ol Q) c).block)) p0 pr.2 st d
 have pm:=nH h.up p0 pr.2
 have prg:∀x∈path v.ns (aC v.ns ((gx dA (ol Q) c).block)),0<=x/\x<v.ns.length:=fun x hx=>rI h.up hx
 have pl:=Cl h.up (aC v.ns ((gx dA (ol Q) c).block))
 obtain⟨p,ep⟩:∃p,path v.ns (aC v.ns ((gx dA (ol Q) c).block))=p:=⟨_,rfl⟩
 rw[ep] at kp pm prg pl;have l0:(0:Int)<(p.length:Int):=by have:=length_pos_of_mem pm;omega
 have lne:¬((p.length:Int)=0):=by omega
 by_cases e1:0<((((k).fdiv (2 ^ min 14 i64.bits))).tmod 4)
 case neg =>
  by_cases e2:((((k).fdiv (2 ^ min 14 i64.bits))).tmod 16)=0
  ·simp only[ZG,seval,Im,iV,hj,j0,j1,g6,hT.Ix,h.sd.tree,gJ,m1,m2,lY _ _ hn,g1,g2,qne,hc,c1,c2,kp,l0,e1,bt e2,Tw];exact⟨_,fM rfl (by simp only[E8,seval,fv]<;>rfl) (by simp only[Z8,seval,fv]<;>rfl) (by simp only[jE,and_self,fv]),_,rfl,rTB⟩
  simp only[ZG,seval,Im,iV,hj,j0,j1,g6,hT.Ix,h.sd.tree,gJ,m1,m2,lY _ _ hn,g1,g2,qne,hc,c1,c2,kp,l0,e1,bf e2];exact⟨_,fM rfl (by simp only[E8,seval,fv]<;>rfl) (by simp only[Z8,seval,fv]<;>rfl) (by simp only[jE,and_self,fv]),_,rfl,rTB⟩
 obtain⟨x1,x2⟩:=cU (n:=(p.length:Int)) (Cm hk (min 16 i64.bits)) l0
 obtain⟨y,hy⟩:∃y,((((k).fdiv (2 ^ min 16 i64.bits))).tmod (p.length:Int))=y:=⟨_,rfl⟩
 rw[hy] at x1 x2;have gp:=oI x1 x2
 obtain⟨z1,z2⟩:=prg (it p y) (by obtain⟨h1,h2⟩:=yR x1 x2;rw[h2];exact getElem_mem h1)
 by_cases e2:((((k).fdiv (2 ^ min 14 i64.bits))).tmod 16)=0
 ·simp only[ZG,seval,Im,iV,hj,j0,j1,g6,hT.Ix,h.sd.tree,gJ,m1,m2,lY _ _ hn,g1,g2,qne,hc,c1,c2,kp,l0,lne,e1,hy,x1,x2,gp,z1,z2,bt e2,Tw];exact⟨_,fM rfl (by simp only[E8,seval,fv]<;>rfl) (by simp only[Z8,seval,fv]<;>rfl) (by simp only[jE,and_self,fv]),_,rfl,rTB⟩
 simp only[ZG,seval,Im,iV,hj,j0,j1,g6,hT.Ix,h.sd.tree,gJ,m1,m2,lY _ _ hn,g1,g2,qne,hc,c1,c2,kp,l0,lne,e1,hy,x1,x2,gp,z1,z2,bf e2];exact⟨_,fM rfl (by simp only[E8,seval,fv]<;>rfl) (by simp only[Z8,seval,fv]<;>rfl) (by simp only[jE,and_self,fv]),_,rfl,rTB⟩
end Go.Ab.Tryz
section
namespace Go.Ab
open Classical
def qG [Ext] {P:Program} {bi:Bool} {a b:Code} {st:St} {β:Type} {K:Ex × St->Option β} {R:β->Prop} (Q:St->Prop) (h:∃st',xZ P bi a st=some (.normal,st')/\Q st')
 (rest:∀st',Q st'->∃r,cT (xZ P bi b st') K=some r/\R r):∃r,cT (xZ P bi (.seq a b) st) K=some r/\R r:=by
 obtain⟨s1,h1,h2⟩:=h
 rw[LR,h1];exact rest s1 h2
end Go.Ab
namespace Go.Ab.Tryz
open Classical Go.Proofs Go.Ab
structure BQ (n:Int) (v:SV) (b:Block):Prop extends RB b where
 rt:b.root=mkRoot n\/∃m∈v.ns,b.root=m.block.root
def x50 {s:aL} {v:SV} {q:Int} (h:GI s v q) (r:RG s v) (n k:Int) (hk:0<=k):∃x,aG prog 50 [.agg (aA s),.v (.int .i64 n),.v (.int .i64 k)]=some x/\∃b:Block,x=.agg (aU b)/\BQ n v b:=by
 have hn:=h.sd.nn
 have hp:(0:Int)<(v.ns.length:Int):=by have:=h.pos;omega
 have gJ:¬((v.ns.length:Int)=0):=by omega
 have Qi:=h.sp
 have rn:Rg s.now:=⟨r.now.1,by have:=r.now.2;omega⟩
 have rnd:∀p:Int,0<=p->p<v.ns.length->RB (nd v.ns p).block:=fun p h0 h1=>(r.nd _ (tN h0 h1)).1
 obtain⟨m1,m2⟩:=cU (n:=(v.ns.length:Int)) hk hp
 obtain⟨m3,m4⟩:=cU (n:=(v.ns.length:Int)) (Cm hk (min 3 i64.bits)) hp
 rw[cG func50 rfl rfl]
 refine qG (fun st=>st.aQ 8=0/\st.aQ 9=0/\st.aQ 11=0/\st.env 1=.v (.int .i64 n)/\st.env 2=.v (.int .i64 k)/\st.env 3=.ptr 3 0 0/\st.heap 3 0=some (.cells (aA s))/\st.env 6=.ptr 6 0 0/\st.heap 6 0=some (.cells (aU dO))) ?h0 ?r0
 case h0 =>
  refine⟨?s1, ?h1, ?q1⟩
  case h1 =>
   simp only[ZG,seval,tC];rfl
  case q1=>exact⟨by simp only[E8,seval]<;>rfl,by simp only[E8,seval]<;>rfl,by simp only[E8,seval]<;>rfl,by simp only[E8,seval]<;>rfl,by simp only[E8,seval]<;>rfl,by simp only[E8,seval]<;>rfl,by simp only[E8,seval]<;>rfl,by simp only[E8,seval]<;>rfl,by simp only[E8,seval]<;>rfl⟩
 case r0 =>
 intro st hI;refine qG (fun st=>∃p:Int,(st.aQ 8=0/\st.aQ 9=0/\st.aQ 11=0/\st.env 1=.v (.int .i64 n)/\st.env 2=.v (.int .i64 k)/\st.env 3=.ptr 3 0 0/\st.heap 3 0=some (.cells (aA s))/\st.env 6=.ptr 6 0 0/\st.heap 6 0=some (.cells (aU dO))/\st.env 7=.v (.int .i64 p))/\0<=p/\p<v.ns.length) ?h1 ?r1
 case h1 =>
  refine⟨?s2, ?h2, ?q2⟩
  case h2 =>
   simp only[ZG,seval,tC,hI,h.sd.tree,gJ];rfl
  case q2=>exact⟨_,by and_intros<;>(simp only[E8,seval,hI]<;>rfl),m1,m2⟩
 case r1 =>
 rintro st ⟨p,hI,p0,p1⟩
 refine qG (fun st=>∃p:Int,(st.aQ 8=0/\st.aQ 9=0/\st.aQ 11=0/\st.env 1=.v (.int .i64 n)/\st.env 2=.v (.int .i64 k)/\st.env 3=.ptr 3 0 0/\st.heap 3 0=some (.cells (aA s))/\st.env 6=.ptr 6 0 0/\st.heap 6 0=some (.cells (aU dO))/\st.env 7=.v (.int .i64 p))/\0<=p/\p<v.ns.length) ?h2 ?r2
 case h2 =>
  by_cases g:0<((((k).fdiv (2 ^ min 6 i64.bits))).tmod 3)
  ·obtain⟨M,hM⟩:∃M,(if (v.ns.length:Int)<3 then (v.ns.length:Int) else 3)=M:=⟨_,rfl⟩
   have hM1:1<=M/\M<=v.ns.length:=by rw[<- hM];split<;>omega
   have hM0:¬M=0:=by omega
   obtain⟨x0,x1⟩:=cU (n:=M) p0 (by omega)
   have w1:i64.wrap ((v.ns.length:Int)-1)=(v.ns.length:Int)-1:=Ty _ (by omega) (by omega)
   have w2:i64.wrap ((v.ns.length:Int)-1-p.tmod M)=(v.ns.length:Int)-1-p.tmod M:=Ty _ (by omega) (by omega)
   refine⟨?s3, ?h3, ?q3⟩
   case h3 =>
    simp only[ZG,seval,tC,hI,h.sd.tree,g,hM,hM0,w1,w2];rfl
   case q3=>exact⟨(v.ns.length:Int)-1-p.tmod M,by and_intros<;>(simp only[E8,seval,hI]<;>rfl),by omega,by omega⟩
  ·skip
   refine⟨?s4, ?h4, ?q4⟩
   case h4 =>
    simp only[ZG,seval,tC,hI,g];rfl
   case q4=>exact⟨p,by and_intros<;>(simp only[E8,seval,hI]<;>rfl),p0,p1⟩
 case r2 =>
 clear hI p0 p1
 clear p
 rintro st ⟨p,hI,p0,p1⟩
 have rN:=rnd p p0 p1
 refine qG (fun st=>st.aQ 9=0/\st.aQ 11=0/\st.env 1=.v (.int .i64 n)/\st.env 2=.v (.int .i64 k)/\st.env 3=.ptr 3 0 0/\st.heap 3 0=some (.cells (aA s))/\st.env 6=.ptr 6 0 0/\st.heap 6 0=some (.cells (aU dO))/\st.env 7=.v (.int .i64 p)/\st.env 8=.ptr 8 0 0/\st.heap 8 0=some (.cells (fF (nd v.ns p)))) ?h4 ?r4
 case h4 =>
  refine⟨?s5, ?h5, ?q5⟩
  case h5 =>
   simp only[ZG,seval,tC,hI,h.sd.tree,p0,p1];rfl
  case q5=>exact⟨by simp only[E8,seval,hI]<;>rfl,by simp only[E8,seval,hI]<;>rfl,by simp only[E8,seval,hI]<;>rfl,by simp only[E8,seval,hI]<;>rfl,by simp only[E8,seval,hI]<;>rfl,by simp only[E8,seval,hI]<;>rfl,by simp only[E8,seval,hI]<;>rfl,by simp only[E8,seval,hI]<;>rfl,by simp only[E8,seval,hI]<;>rfl,by simp only[E8,seval,hI]<;>rfl,by simp only[E8,seval,hI]<;>rfl⟩
 case r4 =>
 clear hI
 intro st hI;refine qG (fun st=>∃b:Block,(st.aQ 11=0/\st.env 1=.v (.int .i64 n)/\st.env 2=.v (.int .i64 k)/\st.env 3=.ptr 3 0 0/\st.heap 3 0=some (.cells (aA s))/\st.env 6=.ptr 6 0 0/\st.heap 6 0=some (.cells (aU dO))/\st.env 7=.v (.int .i64 p)/\st.env 8=.ptr 8 0 0/\st.heap 8 0=some (.cells (fF (nd v.ns p)))/\st.env 9=.ptr 9 0 0/\st.heap 9 0=some (.cells (aU b)))/\BQ n v b) ?h5 ?r5
 case h5 =>
  refine⟨?s6, ?h6, ?q6⟩
  case h6 =>
   simp only[ZG,seval,tC,hI,Tw];rfl
  case q6=>exact⟨_,by and_intros<;>(simp only[E8,seval,hI]<;>rfl),by exact⟨⟨rn,rN.j,rN.f,rN.pj,rN.pf⟩,.inl rfl⟩⟩
 case r5 =>
 clear hI
 rintro st ⟨b,hI,rb⟩
 refine qG (fun st=>∃b:Block,(st.aQ 11=0/\st.env 1=.v (.int .i64 n)/\st.env 2=.v (.int .i64 k)/\st.env 3=.ptr 3 0 0/\st.heap 3 0=some (.cells (aA s))/\st.env 6=.ptr 6 0 0/\st.heap 6 0=some (.cells (aU dO))/\st.env 7=.v (.int .i64 p)/\st.env 8=.ptr 8 0 0/\st.heap 8 0=some (.cells (fF (nd v.ns p)))/\st.env 9=.ptr 9 0 0/\st.heap 9 0=some (.cells (aU b)))/\BQ n v b) ?h6 ?r6
 case h6 =>
  by_cases g:((((k).fdiv (2 ^ min 10 i64.bits))).tmod 5)=0
  case neg =>
   refine⟨?s7, ?h7, ?q7⟩
   case h7 =>
    simp only[ZG,seval,tC,hI,bf g];rfl
   case q7=>exact⟨b,by and_intros<;>(simp only[E8,seval,hI]<;>rfl),rb⟩
  by_cases g2:0<s.now
  case neg =>
   refine⟨?s8, ?h8, ?q8⟩
   case h8 =>
    simp only[ZG,seval,tC,hI,bt g,g2];rfl
   case q8=>exact⟨b,by and_intros<;>(simp only[E8,seval,hI]<;>rfl),rb⟩
  refine⟨?s9, ?h9, ?q9⟩
  case h9 =>
   simp only[ZG,seval,tC,hI,bt g,g2];rfl
  case q9=>exact⟨_,by and_intros<;>(simp only[E8,seval,hI]<;>rfl),by exact⟨⟨iM _,rb.j,rb.f,rb.pj,rb.pf⟩,rb.rt⟩⟩
 case r6 =>
 clear hI rb
 clear b
 rintro st ⟨b,hI,rb⟩
 refine qG (fun st=>∃b:Block,(st.aQ 11=0/\st.env 1=.v (.int .i64 n)/\st.env 2=.v (.int .i64 k)/\st.env 3=.ptr 3 0 0/\st.heap 3 0=some (.cells (aA s))/\st.env 6=.ptr 6 0 0/\st.heap 6 0=some (.cells (aU dO))/\st.env 7=.v (.int .i64 p)/\st.env 8=.ptr 8 0 0/\st.heap 8 0=some (.cells (fF (nd v.ns p)))/\st.env 9=.ptr 9 0 0/\st.heap 9 0=some (.cells (aU b)))/\BQ n v b) ?h8 ?r8
 case h8 =>
  by_cases g:((((k).fdiv (2 ^ min 12 i64.bits))).tmod 16)=0
  case neg =>
   refine⟨?s10, ?h10, ?q10⟩
   case h10 =>
    simp only[ZG,seval,tC,hI,bf g];rfl
   case q10=>exact⟨b,by and_intros<;>(simp only[E8,seval,hI]<;>rfl),rb⟩
  refine⟨?s11, ?h11, ?q11⟩
  case h11 =>
   simp only[ZG,seval,tC,hI,bt g,Tw];rfl
  case q11=>exact⟨_,by and_intros<;>(simp only[E8,seval,hI]<;>rfl),by exact⟨⟨rb.sl,rb.j,rb.f,rb.pj,rb.pf⟩,rb.rt⟩⟩
 case r8 =>
 clear hI rb
 clear b
 rintro st ⟨b,hI,rb⟩
 refine qG (fun st=>∃e:Int,(st.aQ 11=0/\st.env 1=.v (.int .i64 n)/\st.env 2=.v (.int .i64 k)/\st.env 3=.ptr 3 0 0/\st.heap 3 0=some (.cells (aA s))/\st.env 6=.ptr 6 0 0/\st.heap 6 0=some (.cells (aU dO))/\st.env 7=.v (.int .i64 p)/\st.env 8=.ptr 8 0 0/\st.heap 8 0=some (.cells (fF (nd v.ns p)))/\st.env 9=.ptr 9 0 0/\st.heap 9 0=some (.cells (aU b))/\st.env 10=.v (.int .u64 e))/\Rg e) ?h10 ?r10
 case h10 =>
  refine⟨?s12, ?h12, ?q12⟩
  case h12 =>
   simp only[ZG,seval,tC,hI,Qi];rfl
  case q12=>exact⟨_,by and_intros<;>(simp only[E8,seval,hI]<;>rfl),iM _⟩
 case r10 =>
 clear hI
 rintro st ⟨e,hI,re⟩
 obtain⟨y,hy,c,rfl,rc⟩:=x92 h r p e re
 have Uv:=kx hy (mM h.sd.flat (.v _) (.v _)) (.agg _ (bR _))
 refine qG (fun st=>∃b:Block,(st.env 1=.v (.int .i64 n)/\st.env 2=.v (.int .i64 k)/\st.env 3=.ptr 3 0 0/\st.heap 3 0=some (.cells (aA s))/\st.env 6=.ptr 6 0 0/\st.heap 6 0=some (.cells (aU dO))/\st.env 7=.v (.int .i64 p)/\st.env 8=.ptr 8 0 0/\st.heap 8 0=some (.cells (fF (nd v.ns p)))/\st.env 9=.ptr 9 0 0/\st.heap 9 0=some (.cells (aU b))/\st.env 10=.v (.int .u64 e))/\BQ n v b) ?h11 ?r11
 case h11 =>
  by_cases g:b.dW.pj.aE<c.aE
  case neg =>
   refine⟨?s13, ?h13, ?q13⟩
   case h13 =>
    simp only[ZG,seval,tC,hI,Uv,g];rfl
   case q13=>exact⟨b,by and_intros<;>(simp only[E8,seval,hI]<;>rfl),rb⟩
  by_cases g2:((((k).fdiv (2 ^ min 13 i64.bits))).tmod 2)=0
  case neg =>
   refine⟨?s14, ?h14, ?q14⟩
   case h14 =>
    simp only[ZG,seval,tC,hI,Uv,g,bf g2];rfl
   case q14=>exact⟨b,by and_intros<;>(simp only[E8,seval,hI]<;>rfl),rb⟩
  by_cases g3:((((k).fdiv (2 ^ min 14 i64.bits))).tmod 2)=0
  case neg =>
   refine⟨?s15, ?h15, ?q15⟩
   case h15 =>
    simp only[ZG,seval,tC,hI,Uv,g,bt g2,bf g3];rfl
   case q15=>exact⟨_,by and_intros<;>(simp only[E8,seval,hI]<;>rfl),by exact⟨⟨rb.sl,rb.j,rb.f,rc,rb.pf⟩,rb.rt⟩⟩
  refine⟨?s16, ?h16, ?q16⟩
  case h16 =>
   simp only[ZG,seval,tC,hI,Uv,g,bt g2,bt g3];rfl
  case q16=>exact⟨_,by and_intros<;>(simp only[E8,seval,hI]<;>rfl),by exact⟨⟨rb.sl,rb.j,rb.f,rc,rb.pj⟩,rb.rt⟩⟩
 case r11 =>
 clear hI rb
 clear b
 rintro st ⟨b,hI,rb⟩
 refine qG (fun st=>∃b:Block,(st.env 1=.v (.int .i64 n)/\st.env 2=.v (.int .i64 k)/\st.env 3=.ptr 3 0 0/\st.heap 3 0=some (.cells (aA s))/\st.env 6=.ptr 6 0 0/\st.heap 6 0=some (.cells (aU dO))/\st.env 7=.v (.int .i64 p)/\st.env 8=.ptr 8 0 0/\st.heap 8 0=some (.cells (fF (nd v.ns p)))/\st.env 9=.ptr 9 0 0/\st.heap 9 0=some (.cells (aU b))/\st.env 10=.v (.int .u64 e))/\BQ n v b) ?h16 ?r16
 case h16 =>
  by_cases g:((((k).fdiv (2 ^ min 15 i64.bits))).tmod 3)=0
  case neg =>
   refine⟨?s17, ?h17, ?q17⟩
   case h17 =>
    simp only[ZG,seval,tC,hI,bf g];rfl
   case q17=>exact⟨b,by and_intros<;>(simp only[E8,seval,hI]<;>rfl),rb⟩
  by_cases g2:u64.wrap ((nd v.ns p).block.slot.tdiv s.cFg.jS)<e
  case neg =>
   refine⟨?s18, ?h18, ?q18⟩
   case h18 =>
    simp only[ZG,seval,tC,hI,bt g,Qi,g2];rfl
   case q18=>exact⟨b,by and_intros<;>(simp only[E8,seval,hI]<;>rfl),rb⟩
  refine⟨?s19, ?h19, ?q19⟩
  case h19 =>
   simp only[ZG,seval,tC,hI,bt g,Qi,g2];rfl
  case q19=>exact⟨_,by and_intros<;>(simp only[E8,seval,hI]<;>rfl),by exact⟨⟨rb.sl,rN.pj,rN.pf,rb.pj,rb.pf⟩,rb.rt⟩⟩
 case r16 =>
 clear hI rb
 clear b
 rintro st ⟨b,hI,rb⟩
 refine qG (fun st=>∃b:Block,(st.env 1=.v (.int .i64 n)/\st.env 2=.v (.int .i64 k)/\st.env 3=.ptr 3 0 0/\st.heap 3 0=some (.cells (aA s))/\st.env 6=.ptr 6 0 0/\st.heap 6 0=some (.cells (aU dO))/\st.env 7=.v (.int .i64 p)/\st.env 8=.ptr 8 0 0/\st.heap 8 0=some (.cells (fF (nd v.ns p)))/\st.env 9=.ptr 9 0 0/\st.heap 9 0=some (.cells (aU b))/\st.env 10=.v (.int .u64 e))/\BQ n v b) ?h18 ?r18
 case h18 =>
  by_cases g:(nd v.ns p).block.gP=cO
  case neg =>
   refine⟨?s20, ?h20, ?q20⟩
   case h20 =>
    simp only[ZG,seval,tC,hI,g,Tw,pY,Nat.reduceLT];rfl
   case q20=>exact⟨_,by and_intros<;>(simp only[E8,seval,hI]<;>rfl),by exact⟨⟨rb.sl,rb.j,rb.f,rb.pj,rb.pf⟩,rb.rt⟩⟩
  by_cases g2:((((k).fdiv (2 ^ min 16 i64.bits))).tmod 3)=0
  case neg =>
   refine⟨?s21, ?By, ?q21⟩
   case By =>
    simp only[ZG,seval,tC,hI,g,bf g2];rfl
   case q21=>exact⟨b,by and_intros<;>(simp only[E8,seval,hI]<;>rfl),rb⟩
  refine⟨?s22, ?Dm, ?q22⟩
  case Dm =>
   simp only[ZG,seval,tC,hI,g,bt g2,Tw,pY,Nat.reduceLT];rfl
  case q22=>exact⟨_,by and_intros<;>(simp only[E8,seval,hI]<;>rfl),by exact⟨⟨rb.sl,rb.j,rb.f,rb.pj,rb.pf⟩,rb.rt⟩⟩
 case r18 =>
 clear hI rb
 clear b
 rintro st ⟨b,hI,rb⟩
 obtain⟨w0,hw0,W,rfl⟩:=aQS ((k).fdiv (2 ^ min 3 i64.bits))
 have k111:=kx hw0 (cP (.v _)) (.agg _ (iQ W))
 refine qG (fun st=>∃b:Block,(st.env 1=.v (.int .i64 n)/\st.env 2=.v (.int .i64 k)/\st.env 3=.ptr 3 0 0/\st.heap 3 0=some (.cells (aA s))/\st.env 6=.ptr 6 0 0/\st.heap 6 0=some (.cells (aU dO))/\st.env 7=.v (.int .i64 p)/\st.env 8=.ptr 8 0 0/\st.heap 8 0=some (.cells (fF (nd v.ns p)))/\st.env 9=.ptr 9 0 0/\st.heap 9 0=some (.cells (aU b))/\st.env 10=.v (.int .u64 e))/\BQ n v b) ?By ?r21
 case By =>
  by_cases c0:((((k).fdiv (2 ^ min 18 i64.bits))).tmod 24)=0
  ·skip
   refine⟨?s23, ?AK, ?q23⟩
   case AK =>
    simp only[ZG,seval,tC,hI,bt c0,Tw];rfl
   case q23=>exact⟨_,by and_intros<;>(simp only[E8,seval,hI]<;>rfl),by exact⟨⟨rb.sl,rb.j,rb.f,rb.pj,rb.pf⟩,rb.rt⟩⟩
  by_cases c1:((((k).fdiv (2 ^ min 18 i64.bits))).tmod 24)=1
  ·skip
   refine⟨?s24, ?h24, ?q24⟩
   case h24 =>
    simp only[ZG,seval,tC,hI,bf c0,bt c1,k111];rfl
   case q24=>exact⟨_,by and_intros<;>(simp only[E8,seval,hI]<;>rfl),by exact⟨⟨rb.sl,rb.j,rb.f,rb.pj,rb.pf⟩,rb.rt⟩⟩
  by_cases c2:((((k).fdiv (2 ^ min 18 i64.bits))).tmod 24)=2
  ·skip
   refine⟨?s25, ?h25, ?q25⟩
   case h25 =>
    simp only[ZG,seval,tC,hI,bf c0,bf c1,bt c2,k111];rfl
   case q25=>exact⟨_,by and_intros<;>(simp only[E8,seval,hI]<;>rfl),by exact⟨⟨rb.sl,rb.j,rb.f,rb.pj,rb.pf⟩,rb.rt⟩⟩
  by_cases c3:((((k).fdiv (2 ^ min 18 i64.bits))).tmod 24)=3
  ·skip
   refine⟨?s26, ?h26, ?q26⟩
   case h26 =>
    simp only[ZG,seval,tC,hI,bf c0,bf c1,bf c2,bt c3];rfl
   case q26=>exact⟨_,by and_intros<;>(simp only[E8,seval,hI]<;>rfl),by exact⟨⟨rb.sl,rb.j,rb.f,iM _,rb.pf⟩,rb.rt⟩⟩
  by_cases c4:((((k).fdiv (2 ^ min 18 i64.bits))).tmod 24)=4
  ·skip
   refine⟨?s27, ?h27, ?q27⟩
   case h27 =>
    simp only[ZG,seval,tC,hI,bf c0,bf c1,bf c2,bf c3,bt c4];rfl
   case q27=>exact⟨_,by and_intros<;>(simp only[E8,seval,hI]<;>rfl),by exact⟨⟨iM _,rb.j,rb.f,rb.pj,rb.pf⟩,rb.rt⟩⟩
  by_cases c5:((((k).fdiv (2 ^ min 18 i64.bits))).tmod 24)=5
  ·skip
   refine⟨?s28, ?h28, ?q28⟩
   case h28 =>
    simp only[ZG,seval,tC,hI,bf c0,bf c1,bf c2,bf c3,bf c4,bt c5,h.sd.tree,gJ,m3,m4];rfl
   case q28=>exact⟨_,by and_intros<;>(simp only[E8,seval,hI]<;>rfl),by exact⟨⟨rb.sl,rb.j,rb.f,rb.pj,rb.pf⟩,.inr ⟨_,tN m3 m4,rfl⟩⟩⟩
  by_cases c6:((((k).fdiv (2 ^ min 18 i64.bits))).tmod 24)=6
  ·skip
   refine⟨?s29, ?h29, ?q29⟩
   case h29 =>
    simp only[ZG,seval,tC,hI,bf c0,bf c1,bf c2,bf c3,bf c4,bf c5,bt c6,Tw];rfl
   case q29=>exact⟨_,by and_intros<;>(simp only[E8,seval,hI]<;>rfl),by exact⟨⟨rb.sl,rb.j,rb.f,rb.pj,rb.pf⟩,rb.rt⟩⟩
  by_cases c7:((((k).fdiv (2 ^ min 18 i64.bits))).tmod 24)=7
  ·skip
   refine⟨?s30, ?h30, ?q30⟩
   case h30 =>
    simp only[ZG,seval,tC,hI,bf c0,bf c1,bf c2,bf c3,bf c4,bf c5,bf c6,bt c7];rfl
   case q30=>exact⟨_,by and_intros<;>(simp only[E8,seval,hI]<;>rfl),by exact⟨⟨rb.sl,rb.j,rb.f,rb.pj,rb.pf⟩,rb.rt⟩⟩
  refine⟨?s31, ?h31, ?q31⟩
  case h31 =>
   simp only[ZG,seval,tC,hI,bf c0,bf c1,bf c2,bf c3,bf c4,bf c5,bf c6,bf c7];rfl
  case q31=>exact⟨b,by and_intros<;>(simp only[E8,seval,hI]<;>rfl),rb⟩
 case r21 =>
 clear hI rb
 clear b
 rintro st ⟨b,hI,rb⟩
 simp only[ZG,seval,tC,hI];exact⟨_,fM rfl (by simp only[E8,seval,hI]<;>rfl) (by simp only[Z8,seval,hI]<;>rfl) (by simp only[jE,and_self,hI]),b,rfl,rb⟩
end Go.Ab.Tryz
end
namespace Go.Ab.Tryz
open Classical Go.Proofs Go.Ab
def Gs (st st':St):Prop:=(∀s g,g<st.aQ s->st'.heap s g=st.heap s g)/\∀s,st.aQ s<=st'.aQ s
def aQ3:aB 0 3 (some 2)=[]/\aB 1 17 (some 6)=[]/\aB 2 2 (some 21)=[]:=⟨rfl,rfl,rfl⟩
def aGW {s:aL} {v:SV} (hs:SD s v) (X:AV) (a:rX) (V:Option (List Int)) (ha:a.eM=ov aM V) (hV:((ol V).length:Int)<1000000) (hr:∀x∈ol V,0<=x/\x<(ol v.L).length) :
 ∃G:St->St,∀st,qH prog 44 [.agg (aA (xY s X)),.agg (iD a)] st=some (.agg (aA (xY (Rl s v a (ol V)) X)),G st)/\Gs st (G st):=by
 have one:∀st,∃st',qH prog 44 [.agg (aA (xY s X)),.agg (iD a)] st=some (.agg (aA (xY (Rl s v a (ol V)) X)),st')/\Gs st st':=by
  intro st;have hl:(xY s X).fP.dS=ov dE v.L:=hs.dS
  rw[Cx prog func44 rfl (by kernel_rfl)]
  simp only[ZG,seval,aQ3,hl,ha,aLZ v.L hs.nL _ _ V hV hr,dR];refine⟨_,yB (P:=prog) (fn:=Tryz.f44) (r:=.cell 4 53) (x:=.agg (aA (xY (Rl s v a (ol V)) X))) (.inl rfl) rfl ?h1, ?h2⟩
  case h1 =>
   rw[rV];simp only[bY,Z8,seval];unfold xY Rl;simp only[ov,Up]
  case h2 =>
   refine⟨fun x g hg=>?_,fun x=>?_⟩
   ·have n2:(x=2/\g=st.aQ 2)=False:=eq_false (by rintro⟨rfl,rfl⟩;omega)
    have n3:(x=3/\g=st.aQ 3)=False:=eq_false (by rintro⟨rfl,rfl⟩;omega)
    have n4:(x=4/\g=st.aQ 4)=False:=eq_false (by rintro⟨rfl,rfl⟩;omega)
    simp only[E8,seval,aT,aX,n2,n3,n4,if_false]
   ·simp only[E8,seval,aT,aX];split<;>(try split)<;>(try split)<;>subst_vars<;>omega
 exact⟨fun st=>Classical.choose (one st),fun st=>Classical.choose_spec (one st)⟩
def JJ {cs:List AV} (h:∀c∈cs,Flat c):cs.flatMap iB=[]:=flatMap_eq_nil_iff.2 fun c hc=>by have:=h c hc;cases this<;>rfl
def aGX {c:AV} (h:Flat c):iB c=[]:=by cases h<;>rfl
def aA8 {s:aL} {v:SV} (h:SD s v) (a g:Nat):jI (.agg (aA (mP s (.own a g))))=[(a,g)]:=by
 obtain⟨h1,h2,h3,h4,h5,h6,h7⟩:=h.fl
 show (aA (mP s (.own a g))).flatMap iB=[(a,g)]
 unfold mP aA jZ;simp only[flatMap_append,flatMap_cons,flatMap_nil,append_nil];rw[JJ (uU _ h1),JJ (pK _ h2 h3),JJ (lG _),JJ (xW _ h6),JJ (eD _),JJ (dY _)];have e4:iB s.cM.early=[]:=aGX h4
 have e7:iB s.tables=[]:=aGX h7
 simp only[e4,e7,nil_append,append_nil];rfl
def aEs {s:aL} {v:SV} (h:SD s v) (a g:Nat):E3 (.agg (aA (mP s (.own a g)))):=by
 obtain⟨h1,h2,h3,h4,h5,h6,h7⟩:=h.fl
 refine .inr (.inr ⟨_,rfl,fun c hc=>?_⟩)
 unfold mP aA jZ at hc;simp only[mem_append,mem_singleton] at hc;rcases hc with hc|hc|hc|(hc|hc)|hc|hc|hc|hc
 ·exact .inl (uU _ h1 _ hc)
 ·exact .inl (pK _ h2 h3 _ hc)
 ·exact .inl (lG _ _ hc)
 ·exact .inl (hc ▸ h4)
 ·exact .inr ⟨a,g,hc⟩
 ·exact .inl (xW _ h6 _ hc)
 ·exact .inl (eD _ _ hc)
 ·exact .inl (dY _ _ hc)
 ·exact .inl (hc ▸ h7)
def aMA {s:aL} {v:SV} {q:Int} (h:GI s v q) {b:Block} (hb:Cs s v b=0) (st:St) (d:Option Nat):fJ (aG prog) 217 [.agg (aA s),.agg (aU b)] st d=some { dst:=d,val:=.agg (aA (sT s v b))}:=Ju (bB h.sd.flat (tW b)) (aL0 h hb) (h.ins hb).sd.flat
def aGY {s:aL} {v:SV} {q:Int} (h0:SD s v) {O:List Block} (h:GI (mP s (ov aH (some O))) { v with O:=some O } q) {b:Block} (hb:Cs (mP s (ov aH (some O))) { v with O:=some O } b=0) (a g:Nat) (st:St) (d:Option Nat) (hh:st.heap a g=some (.row 74 238 O.length (aH O))) :
 fJ (aG prog) 217 [.agg (aA (mP s (.own a g))),.agg (aU b)] st d=some { dst:=d,val:=.agg (aA (sT (mP s (ov aH (some O))) { v with O:=some O } b)),dP:=some (a,g,none)}:=by
 rw[Ro (s:=a) (k:=g) (by rw[flatMap_cons,flatMap_cons,flatMap_nil,aA8 h0,wO (tW b)];rfl) (by intro x hx;simp only[mem_cons,not_mem_nil,or_false] at hx;rcases hx with rfl|rfl;exact aEs h0 a g;exact .inl (tW b)),
  map_cons,map_cons,map_nil,Az h0 st hh,Oz,bK,bK,fY]
 exact RM (aL0 h hb) (h.ins hb).sd.flat
def aQ4 {s:aL} {v:SV} {q:Int} (h0:SD s v) {O:List Block} (h:GI (mP s (ov aH (some O))) { v with O:=some O } q) (b:Block) (a g:Nat) (st:St) (d:Option Nat) (hh:st.heap a g=some (.row 74 238 O.length (aH O))) :
 bH (aG prog) 52 [.agg (aA (mP s (.own a g))),.agg (aU b)] st d=some { dst:=d,val:=.v (.int .i64 (Cs (mP s (ov aH (some O))) { v with O:=some O } b))}:=by
 rw[jY,map_cons,map_cons,map_nil,Az h0 st hh,Oz,bK,bK,fY];exact Wy (c52 h.sd h.up h.sp b)
def aMB {s:aL} {v:SV} {q:Int} (h0:SD s v) {O:List Block} (h:GI (mP s (ov aH (some O))) { v with O:=some O } q) (a g:Nat) (st:St) (d:Option Nat) (hh:st.heap a g=some (.row 74 238 O.length (aH O))) :
 bH (aG prog) 218 [.agg (aA (mP s (.own a g)))] st d=some { dst:=d,val:=.v (.int .i64 (Yc { v with O:=some O }))}:=by
 rw[jY,map_cons,map_nil,Az h0 st hh,bK,fY];exact Wy (aLY h.sd)
def tP {s:aL} {v:SV} (h:SD s v):mP s (ov aH v.O)=s:=by unfold mP;rw[<- h.bN]
def lA:Code->Code
 | .loop b=>.loop b
 | .seq a b=>match lA a with
   | .skip=>lA b
   | c=>c
 | .cond _ a b=>match lA a with
   | .skip=>lA b
   | c=>c
 | .block _ b=>lA b
 | _=>.skip
def Cy:Code:=lA (Tryz.f203.body.getD .skip)
def aEt {v:SV} (h:Yc v<0):OP v:=fun o ho=>by
 unfold Yc at h;rcases lS (fun k=>0<=aC v.ns (gx dO (ol v.O) k).parent) (ol v.O).length with ⟨_,hj⟩|⟨k,_,_,_,e⟩
 ·obtain⟨i,hi,rfl⟩:=getElem_of_mem ho
  have:=hj i hi
  rw[show gx dO (ol v.O) ((i:Nat):Int)=(ol v.O)[i] by simp[gx,hi]] at this
  omega
 ·rw[e] at h;omega
def aQ5 (s:aL) (v:SV) (q:Int) (m:Nat) (st:St):Prop:=∃(S0:aL) (w:SV) (X:AV) (R:List cC) (a g:Nat),((st).env 2=.ptr 2 0 0/\(st).heap 2 0=some (.cells (aA (mP S0 X)))/\(st).env 4=.ptr 4 0 0/\(st).heap 4 0=some (.cells (aA gC))/\(st).env 9=.own a g/\(st).heap a g=some (.row 27 32 R.length (gX R))/\(st).env 10=.v (.int .i64 (Yc w)))/\((a=66/\g=0)\/(a=105/\g<st.aQ 105))/\(X=ov aH w.O\/∃g' L,w.O=some L/\X=.own 91 g'/\g'<st.aQ 91/\st.heap 91 g'=some (.row 74 238 L.length (aH L)))/\GI S0 w q/\RG0 S0 w/\S0.cFg=s.cFg/\R.length+(ol w.O).length<=1+(ol v.O).length/\m=(ol w.O).length
def P9 (s:aL) (v:SV) (q:Int) (e:Ex) (st:St):Prop:=e=.exit 0/\∃(S0:aL) (w:SV) (X:AV) (R:List cC) (a g:Nat),(st.env 2=.ptr 2 0 0/\st.heap 2 0=some (.cells (aA (mP S0 X)))/\st.env 4=.ptr 4 0 0/\st.heap 4 0=some (.cells (aA gC))/\st.env 9=.own a g/\st.heap a g=some (.row 27 32 R.length (gX R)))/\a≠4/\(X=ov aH w.O\/∃g' L,w.O=some L/\X=.own 91 g'/\st.heap 91 g'=some (.row 74 238 L.length (aH L)))/\GI S0 w q/\RG S0 w/\S0.cFg=s.cFg/\R.length<=1+(ol v.O).length
def LS {s:aL} {v:SV} {q:Int} (nb:((ol v.O).length:Int)<=64) {m:Nat} {st:St} (hs:aQ5 s v q m st):∃e st',Bx prog Cy st=some (e,st')/\P9 s v q e st':=by
 have key:∃r,cT (Bx prog Cy st) some=some r/\P9 s v q r.1 r.2:=by
  unfold Cy;simp only[Tryz.f203,Option.getD_some,lA];refine cA (fun m st=>∃(S0:aL) (w:SV) (X:AV) (R:List cC) (a g:Nat),((st).env 2=.ptr 2 0 0/\(st).heap 2 0=some (.cells (aA (mP S0 X)))/\(st).env 4=.ptr 4 0 0/\(st).heap 4 0=some (.cells (aA gC))/\(st).env 9=.own a g/\(st).heap a g=some (.row 27 32 R.length (gX R))/\(st).env 10=.v (.int .i64 (Yc w)))/\((a=66/\g=0)\/(a=105/\g<st.aQ 105))/\(X=ov aH w.O\/∃g' L,w.O=some L/\X=.own 91 g'/\g'<st.aQ 91/\st.heap 91 g'=some (.row 74 238 L.length (aH L)))/\GI S0 w q/\RG0 S0 w/\S0.cFg=s.cFg/\R.length+(ol w.O).length<=1+(ol v.O).length/\m=(ol w.O).length) (fun e st=>e=.exit 0/\∃(S0:aL) (w:SV) (X:AV) (R:List cC) (a g:Nat),(st.env 2=.ptr 2 0 0/\st.heap 2 0=some (.cells (aA (mP S0 X)))/\st.env 4=.ptr 4 0 0/\st.heap 4 0=some (.cells (aA gC))/\st.env 9=.own a g/\st.heap a g=some (.row 27 32 R.length (gX R)))/\a≠4/\(X=ov aH w.O\/∃g' L,w.O=some L/\X=.own 91 g'/\st.heap 91 g'=some (.row 74 238 L.length (aH L)))/\GI S0 w q/\RG S0 w/\S0.cFg=s.cFg/\R.length<=1+(ol v.O).length) m ?step ?start ?rest
  case start=>exact hs
  case rest=>exact fun e st h=>⟨_,rfl,h⟩
  case step =>
   clear hs
   rintro m st ⟨S0,w,X,R,a,g,hI,LP,hX,hG,nU,hC,hR,hm⟩
   have hlO:=hG.nO
   have hlB:=hG.LJ
   by_cases aW:0<=Yc w
   case neg =>
    have hI':=hI
    have hX':X=ov aH w.O\/∃g' L,w.O=some L/\X=.own 91 g'/\st.heap 91 g'=some (.row 74 238 L.length (aH L)):=hX.imp id fun ⟨g',L,h1,h2,_,h4⟩=>⟨g',L,h1,h2,h4⟩
    apply oT (.exit 0)
    ·simp only[Z8,seval,hI,aW];rfl
    ·exact⟨rfl,S0,w,X,R,a,g,by simp only[E8,seval,hI],by omega,by simpa only[E8,seval] using hX',hG,⟨nU,aEt (by omega)⟩,hC,by omega⟩
   obtain⟨k,hk,hkp,hkw⟩:∃k:Nat,k<(ol w.O).length/\0<=aC w.ns (gx dO (ol w.O) k).parent/\Yc w=k:=by
    rcases lS (fun k=>0<=aC w.ns (gx dO (ol w.O) k).parent) (ol w.O).length with ⟨e,_⟩|⟨k,h1,h2,_,h3⟩
    ·have:Yc w=-1:=e;omega
    ·exact⟨k,h1,h2,h3⟩
   rw[hkw] at hI aW;have q0:(0:Int)<=k:=by omega
   have q1:(k:Int)<((ol w.O).length:Int):=by omega
   have q2:(k:Int)<=((ol w.O).length:Int):=by omega
   have q3:(0:Int)<=((k+1:Nat):Int):=by omega
   have q4:((k+1:Nat):Int)<=((ol w.O).length:Int):=by omega
   have hw:=wk (k:=k) (by omega)
   obtain⟨bb,xG⟩:∃bb,gx dO (ol w.O) (k:Int)=bb:=⟨_,rfl⟩
   have n1:((((ol w.O).take k).length:Nat):Int)<1000000:=by rw[length_take];omega
   have n2:((((ol w.O).drop (k+1)).length:Nat):Int)<1000000:=by rw[length_drop];omega
   obtain⟨LL,BT⟩:∃LL,(ol w.O).take k++(ol w.O).drop (k+1)=LL:=⟨_,rfl⟩
   have nl:LL.length+1=(ol w.O).length:=by rw[<- BT,length_append,length_take,length_drop];omega
   have hmem:∀b∈LL,b∈ol w.O:=fun b hb=>by rw[<- BT] at hb;exact (mem_append.1 hb).elim mem_of_mem_take mem_of_mem_drop
   have nR:(R.length:Int)<1000000:=by omega
   have hbm:bb∈ol w.O:=by rw[<- xG];exact nC q0 q1
   have e1:ol (w.O.map (·.take k))=(ol w.O).take k:=by cases w.O<;>simp[ol]
   have e2:ol (w.O.map (·.drop (k+1)))=(ol w.O).drop (k+1):=by cases w.O<;>simp[ol]
   by_cases hz:LL=[]
   ·skip
    have hT:((ol w.O).take k).length=0:=by have:=congrArg List.length BT;rw[hz,length_append] at this;simp only[length_nil] at this;omega
    have hD:((ol w.O).drop (k+1)).length=0:=by have:=congrArg List.length BT;rw[hz,length_append] at this;simp only[length_nil] at this;omega
    have zL:(ol w.O).length=1:=by rw[hz] at nl;simpa using nl.symm
    have Np:=hG.RC none (by show ((0:Nat):Int)<=_;omega)
    have Fc:RG0 (mP S0 (ov aH none)) { w with O:=none }:=nU.RC none (ov aH none) (nil_sublist _) nofun
    have BU:∀(st:St) (d:Option Nat),bH (aG prog) 52 [.agg (aA (mP S0 (.v (.slice none 0 0)))),.agg (aU bb)] st d=_:=k52 Np.sd Np.up Np.sp bb
    have Nq:∀(st:St) (d:Option Nat),bH (aG prog) 218 [.agg (aA (mP S0 (.v (.slice none 0 0))))] st d=_:=QZ Np.sd
    have hO2:(ol (kO (mP S0 (ov aH none)) { w with O:=none } bb).O).length<=0:=ZD _ _ _
    obtain⟨c,hc⟩:∃c,Cs (mP S0 (ov aH none)) { w with O:=none } bb=c:=⟨_,rfl⟩
    rw[hc] at BU;by_cases qM:c=0
    ·rw[qM] at hc;have Pa:=Np.ins hc
     have Fe:=Fc.ins Np (nU.or bb hbm) hc
     have RT:=(Cv (mP S0 (ov aH none)) { w with O:=none } bb).1
     have JK:∀(st:St) (d:Option Nat),fJ (aG prog) 217 [.agg (aA (mP S0 (.v (.slice none 0 0)))),.agg (aU bb)] st d=_:=aMA Np hc
     have qI:=QZ Pa.sd
     obtain⟨S2,hS2⟩:∃S2,sT (mP S0 (ov aH none)) { w with O:=none } bb=S2:=⟨_,rfl⟩
     rw[hS2] at JK Pa Fe qI RT
     have Pb:=tP Pa.sd
     simp only[mP] at BU Nq JK hI;rcases hX with rfl|⟨g',L,hL,rfl,hg1,RU⟩
     ·rcases LP with ⟨rfl,rfl⟩|⟨rfl,hg⟩
      ·refine pP (st':=?_) ?_ ((ol (kO (mP S0 (ov aH none)) { w with O:=none } bb).O).length) (by omega) ?_
       rotate_left
       ·simp only[Z8,seval,hI,aW,q0,q1,q2,q3,q4,hw,xG,Int.toNat_natCast,iN,iO,nF,Option.isSome_some,aAo,aAk,hT,hD,BU,Nq,e1,e2,bt qM,JK,qI,pC _ _ _ _ nR];rfl
       ·refine⟨S2,kO (mP S0 (ov aH none)) { w with O:=none } bb,_,R++[bb.root],105,st.aQ 105, ?_,.inr ⟨rfl,by simp only[E8,seval]<;>omega⟩,.inl rfl,Pa,Fe,RT.trans hC, ?_,rfl⟩
        ·rw[Pb];simp only[E8,seval,hI]<;>rfl
        ·rw[length_append,length_cons,length_nil];omega
      ·have vQ:(g=st.aQ 105)=False:=eq_false (by omega)
       refine pP (st':=?_) ?_ ((ol (kO (mP S0 (ov aH none)) { w with O:=none } bb).O).length) (by omega) ?_
       rotate_left
       ·simp only[Z8,seval,hI,aW,q0,q1,q2,q3,q4,hw,xG,Int.toNat_natCast,iN,iO,nF,Option.isSome_some,aAo,aAk,hT,hD,BU,Nq,e1,e2,vQ,bt qM,JK,qI,pC _ _ _ _ nR];rfl
       ·refine⟨S2,kO (mP S0 (ov aH none)) { w with O:=none } bb,_,R++[bb.root],105,st.aQ 105, ?_,.inr ⟨rfl,by simp only[E8,seval]<;>omega⟩,.inl rfl,Pa,Fe,RT.trans hC, ?_,rfl⟩
        ·rw[Pb];simp only[E8,seval,hI]<;>rfl
        ·rw[length_append,length_cons,length_nil];omega
     ·have eL:ol w.O=L:=by rw[hL];rfl
      have RW:(g'=st.aQ 91)=False:=eq_false (by omega)
      obtain⟨X1,RX,Jv⟩:=Uq (L:=L) (k:=k) (by rw[<- eL];omega) 91 g'
      obtain⟨X2,RY,Jw⟩:=Ey (L:=L) (k:=k+1) (by rw[<- eL];omega) 91 g'
      have BV:(k:Int)<(L.length:Int):=by rw[<- eL];omega
      have BW:=yC (T:=74) (n:=L.length) (k:=238) q0 BV RZ (by decide) (by decide)
      simp only[Int.toNat_natCast] at BW;subst eL;rcases LP with ⟨rfl,rfl⟩|⟨rfl,hg⟩
      ·refine pP (st':=?_) ?_ ((ol (kO (mP S0 (ov aH none)) { w with O:=none } bb).O).length) (by omega) ?_
       rotate_left
       ·simp only[Z8,seval,hI,aW,q0,q1,q2,q3,q4,hw,xG,Int.toNat_natCast,iN,iO,nF,Option.isSome_some,aAo,aAk,hT,hD,BU,Nq,RU,RW,RX _ _,Jv,RY _ _,Jw,BV,BW,bt qM,JK,qI,pC _ _ _ _ nR];rfl
       ·refine⟨S2,kO (mP S0 (ov aH none)) { w with O:=none } bb,_,R++[bb.root],105,st.aQ 105, ?_,.inr ⟨rfl,by simp only[E8,seval]<;>omega⟩,.inl rfl,Pa,Fe,RT.trans hC, ?_,rfl⟩
        ·rw[Pb];simp only[E8,seval,hI]<;>rfl
        ·rw[length_append,length_cons,length_nil];omega
      ·have vQ:(g=st.aQ 105)=False:=eq_false (by omega)
       refine pP (st':=?_) ?_ ((ol (kO (mP S0 (ov aH none)) { w with O:=none } bb).O).length) (by omega) ?_
       rotate_left
       ·simp only[Z8,seval,hI,aW,q0,q1,q2,q3,q4,hw,xG,Int.toNat_natCast,iN,iO,nF,Option.isSome_some,aAo,aAk,hT,hD,BU,Nq,RU,RW,RX _ _,Jv,RY _ _,Jw,BV,BW,vQ,bt qM,JK,qI,pC _ _ _ _ nR];rfl
       ·refine⟨S2,kO (mP S0 (ov aH none)) { w with O:=none } bb,_,R++[bb.root],105,st.aQ 105, ?_,.inr ⟨rfl,by simp only[E8,seval]<;>omega⟩,.inl rfl,Pa,Fe,RT.trans hC, ?_,rfl⟩
        ·rw[Pb];simp only[E8,seval,hI]<;>rfl
        ·rw[length_append,length_cons,length_nil];omega
    ·simp only[mP] at BU Nq hI;rcases hX with rfl|⟨g',L,hL,rfl,hg1,RU⟩
     ·rcases LP with ⟨rfl,rfl⟩|⟨rfl,hg⟩
      ·refine pP (st':=?_) ?_ 0 (by omega) ?_
       rotate_left
       ·simp only[Z8,seval,hI,aW,q0,q1,q2,q3,q4,hw,xG,Int.toNat_natCast,iN,iO,nF,Option.isSome_some,aAo,aAk,hT,hD,BU,Nq,e1,e2,bf qM];rfl
       ·refine⟨(mP S0 (ov aH none)),{ w with O:=none },ov aH none,R,_,_, ?_,.inl ⟨rfl,rfl⟩,.inl rfl,Np,Fc,hC,by show R.length+0<=_;omega,rfl⟩
        simp only[E8,seval,hI]<;>rfl
      ·have vQ:(g=st.aQ 105)=False:=eq_false (by omega)
       refine pP (st':=?_) ?_ 0 (by omega) ?_
       rotate_left
       ·simp only[Z8,seval,hI,aW,q0,q1,q2,q3,q4,hw,xG,Int.toNat_natCast,iN,iO,nF,Option.isSome_some,aAo,aAk,hT,hD,BU,Nq,e1,e2,vQ,bf qM];rfl
       ·refine⟨(mP S0 (ov aH none)),{ w with O:=none },ov aH none,R,_,_, ?_,.inr ⟨rfl,by simp only[E8,seval]<;>omega⟩,.inl rfl,Np,Fc,hC,by show R.length+0<=_;omega,rfl⟩
        simp only[E8,seval,hI]<;>rfl
     ·have eL:ol w.O=L:=by rw[hL];rfl
      have RW:(g'=st.aQ 91)=False:=eq_false (by omega)
      obtain⟨X1,RX,Jv⟩:=Uq (L:=L) (k:=k) (by rw[<- eL];omega) 91 g'
      obtain⟨X2,RY,Jw⟩:=Ey (L:=L) (k:=k+1) (by rw[<- eL];omega) 91 g'
      have BV:(k:Int)<(L.length:Int):=by rw[<- eL];omega
      have BW:=yC (T:=74) (n:=L.length) (k:=238) q0 BV RZ (by decide) (by decide)
      simp only[Int.toNat_natCast] at BW;subst eL;rcases LP with ⟨rfl,rfl⟩|⟨rfl,hg⟩
      ·refine pP (st':=?_) ?_ 0 (by omega) ?_
       rotate_left
       ·simp only[Z8,seval,hI,aW,q0,q1,q2,q3,q4,hw,xG,Int.toNat_natCast,iN,iO,nF,Option.isSome_some,aAo,aAk,hT,hD,BU,Nq,RU,RW,RX _ _,Jv,RY _ _,Jw,BV,BW,bf qM];rfl
       ·refine⟨(mP S0 (ov aH none)),{ w with O:=none },ov aH none,R,_,_, ?_,.inl ⟨rfl,rfl⟩,.inl rfl,Np,Fc,hC,by show R.length+0<=_;omega,rfl⟩
        simp only[E8,seval,hI]<;>rfl
      ·have vQ:(g=st.aQ 105)=False:=eq_false (by omega)
       refine pP (st':=?_) ?_ 0 (by omega) ?_
       rotate_left
       ·simp only[Z8,seval,hI,aW,q0,q1,q2,q3,q4,hw,xG,Int.toNat_natCast,iN,iO,nF,Option.isSome_some,aAo,aAk,hT,hD,BU,Nq,RU,RW,RX _ _,Jv,RY _ _,Jw,BV,BW,vQ,bf qM];rfl
       ·refine⟨(mP S0 (ov aH none)),{ w with O:=none },ov aH none,R,_,_, ?_,.inr ⟨rfl,by simp only[E8,seval]<;>omega⟩,.inl rfl,Np,Fc,hC,by show R.length+0<=_;omega,rfl⟩
        simp only[E8,seval,hI]<;>rfl
   have BO:(LL.length=0)=False:=eq_false fun h=>hz (length_eq_zero_iff.1 h)
   have Np:=hG.RC (some LL) (by show ((LL.length:Nat):Int)<=_;omega)
   have tD:=aQ4 hG.sd Np bb 91
   have pD:=aMB hG.sd Np 91
   have hO2:(ol (kO (mP S0 (ov aH (some LL))) { w with O:=some LL } bb).O).length<=LL.length:=ZD _ _ _
   obtain⟨c,hc⟩:∃c,Cs (mP S0 (ov aH (some LL))) { w with O:=some LL } bb=c:=⟨_,rfl⟩
   rw[hc] at tD
   have Fc:=nU.RC (some LL) (ov aH (some LL)) (by show LL.Sublist _;rw[<- BT,<- eraseIdx_eq_take_drop_succ];exact eraseIdx_sublist ..) (fun e=>hz (by injection e))
   have eO:∀x,mP (mP S0 (ov aH (some LL))) x=mP S0 x:=fun x=>rfl
   by_cases rC:k=0
   ·have hT:((ol w.O).take k).length=0:=by rw[rC];rfl
    have hD:(ol w.O).drop (k+1)=LL:=by rw[<- BT,rC];rfl
    have n3:((LL.length:Nat):Int)<1000000:=by omega
    by_cases qM:c=0
    · -- taken in
     rw[qM] at hc;have Pa:=Np.ins hc
     have Fe:=Fc.ins Np (nU.or bb hbm) hc
     have RT:=(Cv (mP S0 (ov aH (some LL))) { w with O:=some LL } bb).1
     have wT:=aGY hG.sd Np hc 91
     have qI:=QZ Pa.sd
     obtain⟨S2,hS2⟩:∃S2,sT (mP S0 (ov aH (some LL))) { w with O:=some LL } bb=S2:=⟨_,rfl⟩
     rw[hS2] at wT Pa Fe qI RT
     have Pb:=tP Pa.sd
     have LU:(ol (kO (mP S0 (ov aH (some LL))) { w with O:=some LL } bb).O).length<m:=by omega
     have LV:(R++[bb.root]).length+(ol (kO (mP S0 (ov aH (some LL))) { w with O:=some LL } bb).O).length<=1+(ol v.O).length:=by rw[length_append,length_cons,length_nil];omega
     simp only[mP] at tD pD wT hI
     rcases hX with rfl|⟨g',L,hL,rfl,hg1,RU⟩
     · -- a list
      rcases LP with ⟨rfl,rfl⟩|⟨rfl,hg⟩
      · -- 66
       refine pP (st':=?_) ?_ ((ol (kO (mP S0 (ov aH (some LL))) { w with O:=some LL } bb).O).length) LU ?_
       rotate_left
       ·simp only[Z8,seval,hI,aW,q0,q1,q2,q3,q4,hw,xG,Int.toNat_natCast,iW _ n3,iN,iO,nF,Option.isSome_some,aAo,aAk,hT,BO,hD,tD,pD,e1,e2,bt qM,wT,qI,pC _ _ _ _ nR];rfl
       ·refine⟨S2,kO (mP S0 (ov aH (some LL))) { w with O:=some LL } bb,_,R++[bb.root],105,st.aQ 105, ?_,.inr ⟨rfl,by simp only[E8,seval]<;>omega⟩,.inl rfl,Pa,Fe,RT.trans hC, ?_,rfl⟩
        ·rw[Pb];simp only[E8,seval,hI]<;>rfl
        ·exact LV
      · -- 105
       have vQ:(g=st.aQ 105)=False:=eq_false (by omega)
       refine pP (st':=?_) ?_ ((ol (kO (mP S0 (ov aH (some LL))) { w with O:=some LL } bb).O).length) LU ?_
       rotate_left
       ·simp only[Z8,seval,hI,aW,q0,q1,q2,q3,q4,hw,xG,Int.toNat_natCast,iW _ n3,iN,iO,nF,Option.isSome_some,aAo,aAk,hT,BO,hD,tD,pD,e1,e2,vQ,bt qM,wT,qI,pC _ _ _ _ nR];rfl
       ·refine⟨S2,kO (mP S0 (ov aH (some LL))) { w with O:=some LL } bb,_,R++[bb.root],105,st.aQ 105, ?_,.inr ⟨rfl,by simp only[E8,seval]<;>omega⟩,.inl rfl,Pa,Fe,RT.trans hC, ?_,rfl⟩
        ·rw[Pb];simp only[E8,seval,hI]<;>rfl
        ·exact LV
     · -- a row of its own
      have eL:ol w.O=L:=by rw[hL];rfl
      have RW:(g'=st.aQ 91)=False:=eq_false (by omega)
      obtain⟨X1,RX,Jv⟩:=Uq (L:=L) (k:=k) (by rw[<- eL];omega) 91 g'
      obtain⟨X2,RY,Jw⟩:=Ey (L:=L) (k:=k+1) (by rw[<- eL];omega) 91 g'
      have BV:(k:Int)<(L.length:Int):=by rw[<- eL];omega
      have BW:=yC (T:=74) (n:=L.length) (k:=238) q0 BV RZ (by decide) (by decide)
      simp only[Int.toNat_natCast] at BW;subst eL;rcases LP with ⟨rfl,rfl⟩|⟨rfl,hg⟩
      · -- 66
       refine pP (st':=?_) ?_ ((ol (kO (mP S0 (ov aH (some LL))) { w with O:=some LL } bb).O).length) LU ?_
       rotate_left
       ·simp only[Z8,seval,hI,aW,q0,q1,q2,q3,q4,hw,xG,Int.toNat_natCast,iW _ n3,iN,iO,nF,Option.isSome_some,aAo,aAk,hT,BO,hD,tD,pD,RU,RW,RX _ _,Jv,RY _ _,Jw,BV,BW,bt qM,wT,qI,pC _ _ _ _ nR];rfl
       ·refine⟨S2,kO (mP S0 (ov aH (some LL))) { w with O:=some LL } bb,_,R++[bb.root],105,st.aQ 105, ?_,.inr ⟨rfl,by simp only[E8,seval]<;>omega⟩,.inl rfl,Pa,Fe,RT.trans hC, ?_,rfl⟩
        ·rw[Pb];simp only[E8,seval,hI]<;>rfl
        ·exact LV
      · -- 105
       have vQ:(g=st.aQ 105)=False:=eq_false (by omega)
       refine pP (st':=?_) ?_ ((ol (kO (mP S0 (ov aH (some LL))) { w with O:=some LL } bb).O).length) LU ?_
       rotate_left
       ·simp only[Z8,seval,hI,aW,q0,q1,q2,q3,q4,hw,xG,Int.toNat_natCast,iW _ n3,iN,iO,nF,Option.isSome_some,aAo,aAk,hT,BO,hD,tD,pD,RU,RW,RX _ _,Jv,RY _ _,Jw,BV,BW,vQ,bt qM,wT,qI,pC _ _ _ _ nR];rfl
       ·refine⟨S2,kO (mP S0 (ov aH (some LL))) { w with O:=some LL } bb,_,R++[bb.root],105,st.aQ 105, ?_,.inr ⟨rfl,by simp only[E8,seval]<;>omega⟩,.inl rfl,Pa,Fe,RT.trans hC, ?_,rfl⟩
        ·rw[Pb];simp only[E8,seval,hI]<;>rfl
        ·exact LV
    · -- left out
     have LU:LL.length<m:=by omega
     have LV:R.length+LL.length<=1+(ol v.O).length:=by omega
     simp only[mP] at tD pD hI
     rcases hX with rfl|⟨g',L,hL,rfl,hg1,RU⟩
     · -- a list
      rcases LP with ⟨rfl,rfl⟩|⟨rfl,hg⟩
      · -- 66
       refine pP (st':=?_) ?_ (LL.length) LU ?_
       rotate_left
       ·simp only[Z8,seval,hI,aW,q0,q1,q2,q3,q4,hw,xG,Int.toNat_natCast,iW _ n3,iN,iO,nF,Option.isSome_some,aAo,aAk,hT,BO,hD,tD,pD,e1,e2,bf qM];rfl
       ·refine⟨(mP S0 (ov aH (some LL))),{ w with O:=some LL },_,R,_,_, ?_,.inl ⟨rfl,rfl⟩,.inr ⟨st.aQ 91,_,rfl,rfl,by simp only[E8,seval]<;>omega,by simp only[E8,seval]<;>rfl⟩,Np,Fc,hC,LV,rfl⟩
        simp only[E8,seval,hI]<;>rfl
      · -- 105
       have vQ:(g=st.aQ 105)=False:=eq_false (by omega)
       refine pP (st':=?_) ?_ (LL.length) LU ?_
       rotate_left
       ·simp only[Z8,seval,hI,aW,q0,q1,q2,q3,q4,hw,xG,Int.toNat_natCast,iW _ n3,iN,iO,nF,Option.isSome_some,aAo,aAk,hT,BO,hD,tD,pD,e1,e2,vQ,bf qM];rfl
       ·refine⟨(mP S0 (ov aH (some LL))),{ w with O:=some LL },_,R,_,_, ?_,.inr ⟨rfl,by simp only[E8,seval]<;>omega⟩,.inr ⟨st.aQ 91,_,rfl,rfl,by simp only[E8,seval]<;>omega,by simp only[E8,seval]<;>rfl⟩,Np,Fc,hC,LV,rfl⟩
        simp only[E8,seval,hI]<;>rfl
     · -- a row of its own
      have eL:ol w.O=L:=by rw[hL];rfl
      have RW:(g'=st.aQ 91)=False:=eq_false (by omega)
      obtain⟨X1,RX,Jv⟩:=Uq (L:=L) (k:=k) (by rw[<- eL];omega) 91 g'
      obtain⟨X2,RY,Jw⟩:=Ey (L:=L) (k:=k+1) (by rw[<- eL];omega) 91 g'
      have BV:(k:Int)<(L.length:Int):=by rw[<- eL];omega
      have BW:=yC (T:=74) (n:=L.length) (k:=238) q0 BV RZ (by decide) (by decide)
      simp only[Int.toNat_natCast] at BW;subst eL;rcases LP with ⟨rfl,rfl⟩|⟨rfl,hg⟩
      · -- 66
       refine pP (st':=?_) ?_ (LL.length) LU ?_
       rotate_left
       ·simp only[Z8,seval,hI,aW,q0,q1,q2,q3,q4,hw,xG,Int.toNat_natCast,iW _ n3,iN,iO,nF,Option.isSome_some,aAo,aAk,hT,BO,hD,tD,pD,RU,RW,RX _ _,Jv,RY _ _,Jw,BV,BW,bf qM];rfl
       ·refine⟨(mP S0 (ov aH (some LL))),{ w with O:=some LL },_,R,_,_, ?_,.inl ⟨rfl,rfl⟩,.inr ⟨st.aQ 91,_,rfl,rfl,by simp only[E8,seval]<;>omega,by simp only[E8,seval]<;>rfl⟩,Np,Fc,hC,LV,rfl⟩
        simp only[E8,seval,hI]<;>rfl
      · -- 105
       have vQ:(g=st.aQ 105)=False:=eq_false (by omega)
       refine pP (st':=?_) ?_ (LL.length) LU ?_
       rotate_left
       ·simp only[Z8,seval,hI,aW,q0,q1,q2,q3,q4,hw,xG,Int.toNat_natCast,iW _ n3,iN,iO,nF,Option.isSome_some,aAo,aAk,hT,BO,hD,tD,pD,RU,RW,RX _ _,Jv,RY _ _,Jw,BV,BW,vQ,bf qM];rfl
       ·refine⟨(mP S0 (ov aH (some LL))),{ w with O:=some LL },_,R,_,_, ?_,.inr ⟨rfl,by simp only[E8,seval]<;>omega⟩,.inr ⟨st.aQ 91,_,rfl,rfl,by simp only[E8,seval]<;>omega,by simp only[E8,seval]<;>rfl⟩,Np,Fc,hC,LV,rfl⟩
        simp only[E8,seval,hI]<;>rfl
   have hT:(((ol w.O).take k).length=0)=False:=eq_false (by rw[length_take];omega)
   by_cases qM:c=0
   · -- taken in
    rw[qM] at hc;have Pa:=Np.ins hc
    have Fe:=Fc.ins Np (nU.or bb hbm) hc
    have RT:=(Cv (mP S0 (ov aH (some LL))) { w with O:=some LL } bb).1
    have wT:=aGY hG.sd Np hc 91
    have qI:=QZ Pa.sd
    obtain⟨S2,hS2⟩:∃S2,sT (mP S0 (ov aH (some LL))) { w with O:=some LL } bb=S2:=⟨_,rfl⟩
    rw[hS2] at wT Pa Fe qI RT
    have Pb:=tP Pa.sd
    have LU:(ol (kO (mP S0 (ov aH (some LL))) { w with O:=some LL } bb).O).length<m:=by omega
    have LV:(R++[bb.root]).length+(ol (kO (mP S0 (ov aH (some LL))) { w with O:=some LL } bb).O).length<=1+(ol v.O).length:=by rw[length_append,length_cons,length_nil];omega
    simp only[mP] at tD pD wT hI
    rcases hX with rfl|⟨g',L,hL,rfl,hg1,RU⟩
    · -- a list
     rcases LP with ⟨rfl,rfl⟩|⟨rfl,hg⟩
     · -- 66
      refine pP (st':=?_) ?_ ((ol (kO (mP S0 (ov aH (some LL))) { w with O:=some LL } bb).O).length) LU ?_
      rotate_left
      ·simp only[Z8,seval,hI,aW,q0,q1,q2,q3,q4,hw,xG,Int.toNat_natCast,iW _ n1,sB _ _ _ _ n1 n2,iN,iO,nF,Option.isSome_some,aAo,aAk,hT,BO,BT,tD,pD,e1,e2,bt qM,wT,qI,pC _ _ _ _ nR];rfl
      ·refine⟨S2,kO (mP S0 (ov aH (some LL))) { w with O:=some LL } bb,_,R++[bb.root],105,st.aQ 105, ?_,.inr ⟨rfl,by simp only[E8,seval]<;>omega⟩,.inl rfl,Pa,Fe,RT.trans hC, ?_,rfl⟩
       ·rw[Pb];simp only[E8,seval,hI]<;>rfl
       ·exact LV
     · -- 105
      have vQ:(g=st.aQ 105)=False:=eq_false (by omega)
      refine pP (st':=?_) ?_ ((ol (kO (mP S0 (ov aH (some LL))) { w with O:=some LL } bb).O).length) LU ?_
      rotate_left
      ·simp only[Z8,seval,hI,aW,q0,q1,q2,q3,q4,hw,xG,Int.toNat_natCast,iW _ n1,sB _ _ _ _ n1 n2,iN,iO,nF,Option.isSome_some,aAo,aAk,hT,BO,BT,tD,pD,e1,e2,vQ,bt qM,wT,qI,pC _ _ _ _ nR];rfl
      ·refine⟨S2,kO (mP S0 (ov aH (some LL))) { w with O:=some LL } bb,_,R++[bb.root],105,st.aQ 105, ?_,.inr ⟨rfl,by simp only[E8,seval]<;>omega⟩,.inl rfl,Pa,Fe,RT.trans hC, ?_,rfl⟩
       ·rw[Pb];simp only[E8,seval,hI]<;>rfl
       ·exact LV
    · -- a row of its own
     have eL:ol w.O=L:=by rw[hL];rfl
     have RW:(g'=st.aQ 91)=False:=eq_false (by omega)
     obtain⟨X1,RX,Jv⟩:=Uq (L:=L) (k:=k) (by rw[<- eL];omega) 91 g'
     obtain⟨X2,RY,Jw⟩:=Ey (L:=L) (k:=k+1) (by rw[<- eL];omega) 91 g'
     have BV:(k:Int)<(L.length:Int):=by rw[<- eL];omega
     have BW:=yC (T:=74) (n:=L.length) (k:=238) q0 BV RZ (by decide) (by decide)
     simp only[Int.toNat_natCast] at BW;subst eL;rcases LP with ⟨rfl,rfl⟩|⟨rfl,hg⟩
     · -- 66
      refine pP (st':=?_) ?_ ((ol (kO (mP S0 (ov aH (some LL))) { w with O:=some LL } bb).O).length) LU ?_
      rotate_left
      ·simp only[Z8,seval,hI,aW,q0,q1,q2,q3,q4,hw,xG,Int.toNat_natCast,iW _ n1,sB _ _ _ _ n1 n2,iN,iO,nF,Option.isSome_some,aAo,aAk,hT,BO,BT,tD,pD,RU,RW,RX _ _,Jv,RY _ _,Jw,BV,BW,bt qM,wT,qI,pC _ _ _ _ nR];rfl
      ·refine⟨S2,kO (mP S0 (ov aH (some LL))) { w with O:=some LL } bb,_,R++[bb.root],105,st.aQ 105, ?_,.inr ⟨rfl,by simp only[E8,seval]<;>omega⟩,.inl rfl,Pa,Fe,RT.trans hC, ?_,rfl⟩
       ·rw[Pb];simp only[E8,seval,hI]<;>rfl
       ·exact LV
     · -- 105
      have vQ:(g=st.aQ 105)=False:=eq_false (by omega)
      refine pP (st':=?_) ?_ ((ol (kO (mP S0 (ov aH (some LL))) { w with O:=some LL } bb).O).length) LU ?_
      rotate_left
      ·simp only[Z8,seval,hI,aW,q0,q1,q2,q3,q4,hw,xG,Int.toNat_natCast,iW _ n1,sB _ _ _ _ n1 n2,iN,iO,nF,Option.isSome_some,aAo,aAk,hT,BO,BT,tD,pD,RU,RW,RX _ _,Jv,RY _ _,Jw,BV,BW,vQ,bt qM,wT,qI,pC _ _ _ _ nR];rfl
      ·refine⟨S2,kO (mP S0 (ov aH (some LL))) { w with O:=some LL } bb,_,R++[bb.root],105,st.aQ 105, ?_,.inr ⟨rfl,by simp only[E8,seval]<;>omega⟩,.inl rfl,Pa,Fe,RT.trans hC, ?_,rfl⟩
       ·rw[Pb];simp only[E8,seval,hI]<;>rfl
       ·exact LV
   · -- left out
    have LU:LL.length<m:=by omega
    have LV:R.length+LL.length<=1+(ol v.O).length:=by omega
    simp only[mP] at tD pD hI
    rcases hX with rfl|⟨g',L,hL,rfl,hg1,RU⟩
    · -- a list
     rcases LP with ⟨rfl,rfl⟩|⟨rfl,hg⟩
     · -- 66
      refine pP (st':=?_) ?_ (LL.length) LU ?_
      rotate_left
      ·simp only[Z8,seval,hI,aW,q0,q1,q2,q3,q4,hw,xG,Int.toNat_natCast,iW _ n1,sB _ _ _ _ n1 n2,iN,iO,nF,Option.isSome_some,aAo,aAk,hT,BO,BT,tD,pD,e1,e2,bf qM];rfl
      ·refine⟨(mP S0 (ov aH (some LL))),{ w with O:=some LL },_,R,_,_, ?_,.inl ⟨rfl,rfl⟩,.inr ⟨st.aQ 91,_,rfl,rfl,by simp only[E8,seval]<;>omega,by simp only[E8,seval]<;>rfl⟩,Np,Fc,hC,LV,rfl⟩
       simp only[E8,seval,hI]<;>rfl
     · -- 105
      have vQ:(g=st.aQ 105)=False:=eq_false (by omega)
      refine pP (st':=?_) ?_ (LL.length) LU ?_
      rotate_left
      ·simp only[Z8,seval,hI,aW,q0,q1,q2,q3,q4,hw,xG,Int.toNat_natCast,iW _ n1,sB _ _ _ _ n1 n2,iN,iO,nF,Option.isSome_some,aAo,aAk,hT,BO,BT,tD,pD,e1,e2,vQ,bf qM];rfl
      ·refine⟨(mP S0 (ov aH (some LL))),{ w with O:=some LL },_,R,_,_, ?_,.inr ⟨rfl,by simp only[E8,seval]<;>omega⟩,.inr ⟨st.aQ 91,_,rfl,rfl,by simp only[E8,seval]<;>omega,by simp only[E8,seval]<;>rfl⟩,Np,Fc,hC,LV,rfl⟩
       simp only[E8,seval,hI]<;>rfl
    · -- a row of its own
     have eL:ol w.O=L:=by rw[hL];rfl
     have RW:(g'=st.aQ 91)=False:=eq_false (by omega)
     obtain⟨X1,RX,Jv⟩:=Uq (L:=L) (k:=k) (by rw[<- eL];omega) 91 g'
     obtain⟨X2,RY,Jw⟩:=Ey (L:=L) (k:=k+1) (by rw[<- eL];omega) 91 g'
     have BV:(k:Int)<(L.length:Int):=by rw[<- eL];omega
     have BW:=yC (T:=74) (n:=L.length) (k:=238) q0 BV RZ (by decide) (by decide)
     simp only[Int.toNat_natCast] at BW;subst eL;rcases LP with ⟨rfl,rfl⟩|⟨rfl,hg⟩
     · -- 66
      refine pP (st':=?_) ?_ (LL.length) LU ?_
      rotate_left
      ·simp only[Z8,seval,hI,aW,q0,q1,q2,q3,q4,hw,xG,Int.toNat_natCast,iW _ n1,sB _ _ _ _ n1 n2,iN,iO,nF,Option.isSome_some,aAo,aAk,hT,BO,BT,tD,pD,RU,RW,RX _ _,Jv,RY _ _,Jw,BV,BW,bf qM];rfl
      ·refine⟨(mP S0 (ov aH (some LL))),{ w with O:=some LL },_,R,_,_, ?_,.inl ⟨rfl,rfl⟩,.inr ⟨st.aQ 91,_,rfl,rfl,by simp only[E8,seval]<;>omega,by simp only[E8,seval]<;>rfl⟩,Np,Fc,hC,LV,rfl⟩
       simp only[E8,seval,hI]<;>rfl
     · -- 105
      have vQ:(g=st.aQ 105)=False:=eq_false (by omega)
      refine pP (st':=?_) ?_ (LL.length) LU ?_
      rotate_left
      ·simp only[Z8,seval,hI,aW,q0,q1,q2,q3,q4,hw,xG,Int.toNat_natCast,iW _ n1,sB _ _ _ _ n1 n2,iN,iO,nF,Option.isSome_some,aAo,aAk,hT,BO,BT,tD,pD,RU,RW,RX _ _,Jv,RY _ _,Jw,BV,BW,vQ,bf qM];rfl
      ·refine⟨(mP S0 (ov aH (some LL))),{ w with O:=some LL },_,R,_,_, ?_,.inr ⟨rfl,by simp only[E8,seval]<;>omega⟩,.inr ⟨st.aQ 91,_,rfl,rfl,by simp only[E8,seval]<;>omega,by simp only[E8,seval]<;>rfl⟩,Np,Fc,hC,LV,rfl⟩
       simp only[E8,seval,hI]<;>rfl
 obtain⟨r,h,hq⟩:=key
 cases hx:Bx prog Cy st with
 | none=>rw[hx] at h;cases h
 | some y=>rw[hx] at h;simp only[cF,aAk] at h;subst h;exact⟨y.1,y.2,rfl,hq⟩
def SA {s:aL} (h:1<=s.cFg.jS) {x y:Int} (hx:0<=x) (hxy:x<=y) (hy:y<18446744073709551616):wL s x<=wL s y:=by
 have e:∀z:Int,0<=z->z<18446744073709551616->wL s z=z / s.cFg.jS:=fun z h0 h1=>by
  unfold wL;rw[Int.tdiv_eq_ediv_of_nonneg h0];have:=Int.ediv_le_self s.cFg.jS h0
  exact wrap_u64 _ (Int.ediv_nonneg h0 (by omega)) (by omega)
 rw[e x hx (by omega),e y (by omega) hy]
 exact Int.ediv_le_ediv (by omega) hxy
def aEu {acc:Bool × dL × dL} {n:Node} (h1:Rg acc.2.1.aE) (h2:Rg acc.2.2.aE) (hn:RB n.block):Rg (QW acc n).2.1.aE/\Rg (QW acc n).2.2.aE:=by
 unfold QW;split
 ·exact⟨h1,h2⟩
 ·refine⟨?_, ?_⟩
  ·dsimp only;split
   ·exact hn.pj
   ·exact h1
  ·dsimp only;split
   ·exact hn.pf
   ·exact h2
def aEv {ns:List Node} (h:∀n∈ns,RB n.block):Rg (Mw ns).pj.aE/\Rg (Mw ns).pf.aE:=by
 have key:∀(l:List Node) (acc:Bool × dL × dL),(∀n∈l,RB n.block)->Rg acc.2.1.aE->Rg acc.2.2.aE->Rg (l.foldl QW acc).2.1.aE/\Rg (l.foldl QW acc).2.2.aE:=by
  intro l;induction l with
  | nil=>intro acc _ h1 h2;exact⟨h1,h2⟩
  | cons n l ih =>
    intro acc hl h1 h2;have hs:=aEu h1 h2 (hl n (mem_cons_self ..))
    exact ih _ (fun x hx=>hl x (mem_cons_of_mem _ hx)) hs.1 hs.2
 exact key ns _ h ⟨by show (0:Int)<=0;omega,by show (0:Int)<_;omega⟩ ⟨by show (0:Int)<=0;omega,by show (0:Int)<_;omega⟩
def Lq (s:aL) (X:AV):(xY s X).now=s.now:=rfl
def Aa (s:aL) (X:AV):(xY s X).cM.early=X:=rfl
def BX {s:aL} {v:SV} (h:SD s v) {L:List rX} (hL:∀x∈L,Flat x.eM) (st:St) {g:Nat} (hh:st.heap 61 g=some (.row 87 67 L.length (dT L))):fS st (.agg (aA (xY s (.own 61 g))))=some (.agg (aA (xY s (ov dT (some L))))):=by
 have pH:=h.fl
 have hx:=aA9 L.length L hL
 unfold xY;simp only[bP,gH,bM,hh,hx,cY,jE,pH,cF];rfl
def aMC {call:Nat->List AV->Option AV} {inl:Nat->List AV->St->Option (AV × St)} {ops:Array Oper} {st:St} {T:Nat} {pos:String} {fB:Array Edge} (x:Array Operand) (y:Array Nat) :
 gT prog true call inl ops ⟨some 80,.call ⟨.value (.func 44),x,y⟩,T,pos,fB,none⟩ st=cT (inl 44 (x.toList.map st.ev) st) fun r=>some ((st.back r.2).put (some 80) r.1):=ZS 44 x y (BY rfl)
def Lr:Code:=lA (Tryz.f202.body.getD .skip)
def aQ7 (c0:Config) (E:Option (List rX)) (q:Int) (m:Nat) (st:St):Prop:=∃(k:Nat) (S:aL) (w:SV) (X:AV),(st.env 1=.ptr 1 0 0/\st.heap 1 0=some (.cells (aA (xY S X)))/\st.env 2=.ptr 2 0 0/\st.heap 2 0=some (.cells (aA gC))/\st.env 5=ov dT E/\st.env 6=.v (.int .i64 k)/\0<st.aQ 1/\0<st.aQ 2)/\((X=.v (.slice none 0 0)/\w.E=none)\/∃g L,w.E=some L/\X=.own 61 g/\g<st.aQ 61/\st.heap 61 g=some (.row 87 67 L.length (dT L)))/\GI (xY S (ov dT w.E)) w q/\RG (xY S (ov dT w.E)) w/\S.cFg=c0/\(ol w.E).length<=k/\k<=(ol E).length/\m=(ol E).length-k
def aEw (c0:Config) (q:Int) (e:Ex) (st:St):Prop:=e=.exit 0/\∃(S:aL) (w:SV) (X:AV),(st.env 1=.ptr 1 0 0/\st.heap 1 0=some (.cells (aA (xY S X)))/\st.env 2=.ptr 2 0 0/\st.heap 2 0=some (.cells (aA gC)))/\((X=.v (.slice none 0 0)/\w.E=none)\/∃g L,w.E=some L/\X=.own 61 g/\st.heap 61 g=some (.row 87 67 L.length (dT L)))/\GI (xY S (ov dT w.E)) w q/\RG (xY S (ov dT w.E)) w/\S.cFg=c0
def aIn:AV->Int
 | .sl n _=>n
 | _=>0
def I3 (o:Option (List Int)):aIn (ov bF o)=(ol o).length:=by cases o<;>rfl
def aBa {c0:Config} {E:Option (List rX)} {q:Int} (hE:∀a∈ol E,Er a) (hEa:∀a∈ol E,∃V,a.eM=ov aM (some V)/\V≠[]) (hEv:∀a∈ol E,∃V,a.eM=ov aM (some V)/\Lk V (aIn c0.iF)=0) (nE:((ol E).length:Int)<=c0.kU.pW) (nE':((ol E).length:Int)<900000) {m:Nat} {st:St} (hs:aQ7 c0 E q m st):∃e st',xZ prog true Lr st=some (e,st')/\aEw c0 q e st':=by
 have key:∃r,cT (xZ prog true Lr st) some=some r/\aEw c0 q r.1 r.2:=by
  unfold Lr;simp only[Tryz.f202,Option.getD_some,lA];refine kZ (fun m st=>∃(k:Nat) (S:aL) (w:SV) (X:AV),(st.env 1=.ptr 1 0 0/\st.heap 1 0=some (.cells (aA (xY S X)))/\st.env 2=.ptr 2 0 0/\st.heap 2 0=some (.cells (aA gC))/\st.env 5=ov dT E/\st.env 6=.v (.int .i64 k)/\0<st.aQ 1/\0<st.aQ 2)/\((X=.v (.slice none 0 0)/\w.E=none)\/∃g L,w.E=some L/\X=.own 61 g/\g<st.aQ 61/\st.heap 61 g=some (.row 87 67 L.length (dT L)))/\GI (xY S (ov dT w.E)) w q/\RG (xY S (ov dT w.E)) w/\S.cFg=c0/\(ol w.E).length<=k/\k<=(ol E).length/\m=(ol E).length-k) (fun e st=>e=.exit 0/\∃(S:aL) (w:SV) (X:AV),(st.env 1=.ptr 1 0 0/\st.heap 1 0=some (.cells (aA (xY S X)))/\st.env 2=.ptr 2 0 0/\st.heap 2 0=some (.cells (aA gC)))/\((X=.v (.slice none 0 0)/\w.E=none)\/∃g L,w.E=some L/\X=.own 61 g/\st.heap 61 g=some (.row 87 67 L.length (dT L)))/\GI (xY S (ov dT w.E)) w q/\RG (xY S (ov dT w.E)) w/\S.cFg=c0) m ?step ?start ?rest
  case start=>exact hs
  case rest=>exact fun e st h=>⟨_,rfl,h⟩
  case step =>
   clear hs
   rintro m st ⟨k,S,w,X,hI,hX,hG,nU,hC,hF,hk,hm⟩
   by_cases aW:(k:Int)<(ol E).length
   case neg =>
    have hX':(X=.v (.slice none 0 0)/\w.E=none)\/∃g L,w.E=some L/\X=.own 61 g/\st.heap 61 g=some (.row 87 67 L.length (dT L)):=hX.imp id fun ⟨g,L,h1,h2,_,h4⟩=>⟨g,L,h1,h2,h4⟩
    apply IY (.exit 0)
    ·simp only[ZG,seval,Cz,hI,aW];rfl
    ·exact⟨rfl,S,w,X,by simp only[E8,seval,hI],by simpa only[E8,seval] using hX',hG,nU,hC⟩
   have q0:(0:Int)<=k:=by omega
   have hw:=wk (k:=k) (by omega)
   obtain⟨a,ea⟩:∃a,gx Jx (ol E) (k:Int)=a:=⟨_,rfl⟩
   have ha:Er a:=by rw[<- ea];exact hE _ (nC q0 aW)
   have hEv':∃V,a.eM=ov aM (some V)/\Lk V (ol w.B).length=0:=by rw[<- I3,show ov bF w.B=c0.iF by rw[<- hC];exact hG.sd.iF.symm,<- ea];exact hEv _ (nC q0 aW)
   have hEa':∃V,a.eM=ov aM (some V)/\V≠[]:=by rw[<- ea];exact hEa _ (nC q0 aW)
   obtain⟨V,hV,nV⟩:=id ha
   have fa:Flat (.agg (iD a)):=(Ax a).2 ha.fl
   have fl9:=hG.sd.flat
   by_cases g1:S.now<=a.slot
   · -- kept
    rcases hX with ⟨rfl,Li⟩|⟨g,L,Li,rfl,hg,hh⟩
    ·have Np:=hG.early (some [a]) (by intro b hb;rw[show b=a by simpa [ol] using hb];exact ha) (by show ((1:Nat):Int)<=S.cFg.kU.pW;rw[hC];omega)
     have Fc:RG (xY S (ov dT (some [a]))) { w with E:=some [a]}:=⟨⟨nU.now,nU.j,nU.f,nU.nd,nU.or,nU.rt,nU.fe,nU.ds,nU.tb,⟨nU.ne.q,by simp,nU.ne.o,nU.ne.t,fun b hb=>by rw[show b=a by simpa [ol] using hb];exact hEa' ,nU.ne.tb⟩,nU.vs.early (some [a]) _ fun b hb=>by rw[show b=a by simpa [ol] using hb];exact hEv'⟩,nU.op⟩
     have an1:=LW a
     apply Dr ((ol E).length-(k+1))
     ·simp only[ZG,seval,Cz,hI,aW,q0,ea,Lq,Aa,g1,fa,an1,hw];rfl
     ·exact⟨k+1,S,{ w with E:=some [a]},_,by and_intros<;>(simp only[E8,seval,hI]<;>rfl),.inr ⟨_,[a],rfl,rfl,by simp only[E8,seval]<;>omega,by simp only[E8,seval]<;>rfl⟩,Np,Fc,hC,by show 1<=k+1;omega,by omega,rfl⟩
    ·have hlL:L.length<=k:=by rw[Li] at hF;exact hF
     have nL:(L.length:Int)<1000000:=by omega
     have vQ:(g=st.aQ 61)=False:=eq_false (by omega)
     have Np:=hG.early (some (L++[a])) (by
      intro b hb;rcases mem_append.1 (show b∈L++[a] from hb) with hb|hb
      ·exact hG.sd.eV b (by rw[Li];exact hb)
      ·rw[mem_singleton] at hb;rw[hb];exact ha) (by show (((L++[a]).length:Nat):Int)<=S.cFg.kU.pW;rw[hC,length_append,length_cons,length_nil];omega)
     have Fc:RG (xY S (ov dT (some (L++[a])))) { w with E:=some (L++[a])}:=⟨⟨nU.now,nU.j,nU.f,nU.nd,nU.or,nU.rt,nU.fe,nU.ds,nU.tb,⟨nU.ne.q,by simp,nU.ne.o,nU.ne.t,fun b hb=>by rcases mem_append.1 (show b∈L++[a] from hb) with hb|hb;exact nU.ne.ea b (by rw[Li];exact hb);rw[mem_singleton] at hb;rw[hb];exact hEa',nU.ne.tb⟩,nU.vs.early (some (L++[a])) _ fun b hb=>(mem_append.1 (show b∈L++[a] from hb)).elim (fun hb=>nU.vs.ea b (by rw[Li];exact hb)) fun hb=>by rw[mem_singleton.1 hb];exact hEv'⟩,nU.op⟩
     apply Dr ((ol E).length-(k+1))
     ·simp only[ZG,seval,Cz,hI,hh,vQ,aW,q0,ea,Lq,Aa,g1,fa,Zj _ _ _ _ nL,hw];rfl
     ·exact⟨k+1,S,{ w with E:=some (L++[a])},_,by and_intros<;>(simp only[E8,seval,hI]<;>rfl),.inr ⟨_,L++[a],rfl,rfl,by simp only[E8,seval]<;>omega,by simp only[E8,seval]<;>rfl⟩,Np,Fc,hC,by show (L++[a]).length<=k+1;rw[length_append,length_cons,length_nil];omega,by omega,rfl⟩
   ·have c39':=c39 hG.sd hG.up hG.sp a V hV (by omega)
    have k39:∀(st:St) (d:Option Nat),fS st (.agg (aA (xY S X)))=some (.agg (aA (xY S (ov dT w.E))))->bH (aG prog) 39 [.agg (aA (xY S X)),.agg (iD a)] st d=some { dst:=d,val:=.eH [.v (.bool (Iw (xY S (ov dT w.E)) w a (ol V)).1),.v (.int .i64 (Iw (xY S (ov dT w.E)) w a (ol V)).2)]}:=by
     intro st d hx;rw[jY,map_cons,map_cons,map_nil,hx,eC fa,bK,bK,fY];exact N3 c39' (by intro x hx;simp only[mem_cons,not_mem_nil,or_false] at hx;rcases hx with rfl|rfl<;>exact .v _) (.eH _ (bB (.v _) (.v _)))
    have Pa:GI (xY (Rl S w a (ol V)) (ov dT w.E)) { w with L:=some (uA (ol w.L) a.target.aE a.root (ol V)).1 } q:=hG.cast a (ol V)
    have Fe:RG (xY (Rl S w a (ol V)) (ov dT w.E)) { w with L:=some (uA (ol w.L) a.target.aE a.root (ol V)).1 }:=⟨⟨nU.now,nU.j,nU.f,nU.nd,nU.or,nU.rt,nU.fe,nU.ds,nU.tb,⟨nU.ne.q,nU.ne.e,nU.ne.o,nU.ne.t,nU.ne.ea,nU.ne.tb⟩,nU.vs.cast a (ol V)⟩,nU.op⟩
    rcases hX with ⟨rfl,Li⟩|⟨g,L,Li,rfl,hg,hh⟩
    ·have e0:ov dT w.E=.v (.slice none 0 0):=by rw[Li];rfl
     have k39n:=fun st d=>k39 st d (by rw[e0];rw[e0] at fl9;exact eC fl9)
     by_cases g2:(Iw (xY S (ov dT w.E)) w a (ol V)).2=0
     case neg =>
      apply Dr ((ol E).length-(k+1))
      ·simp only[ZG,seval,Cz,hI,aW,q0,ea,Lq,Aa,g1,k39n,dR,bf g2,hw];rfl
      ·exact⟨k+1,S,w,_,by and_intros<;>(simp only[E8,seval,hI]<;>rfl),.inl ⟨rfl,Li⟩,hG,nU,hC,by omega,by omega,rfl⟩
     have hr:∀x∈ol V,0<=x/\x<(ol w.L).length:=by rw[hG.JB];exact ZI (BP g2)
     obtain⟨G,Uw⟩:=aGW hG.sd (.v (.slice none 0 0)) a V hV (by omega) hr
     have kG:∀st,qH prog 44 [.agg (aA (xY S (.v (.slice none 0 0)))),.agg (iD a)] st=some (.agg (aA (xY (Rl S w a (ol V)) (.v (.slice none 0 0)))),G st):=fun st=>(Uw st).1
     have f1:∀st:St,0<st.aQ 1->(G st).heap 1 0=st.heap 1 0:=fun st h=>(Uw st).2.1 1 0 h
     have f2:∀st:St,0<st.aQ 2->(G st).heap 2 0=st.heap 2 0:=fun st h=>(Uw st).2.1 2 0 h
     have c1:∀st:St,0<st.aQ 1->(0<(G st).aQ 1)=True:=fun st h=>eq_true (Nat.lt_of_lt_of_le h ((Uw st).2.2 1))
     have c2:∀st:St,0<st.aQ 2->(0<(G st).aQ 2)=True:=fun st h=>eq_true (Nat.lt_of_lt_of_le h ((Uw st).2.2 2))
     apply Dr ((ol E).length-(k+1))
     ·simp only[ZG,seval,Cz,hI,aW,q0,ea,Lq,Aa,g1,k39n,dR,bt g2,aMC,kG,f1,bS,aT,aX,hw];rfl
     ·exact⟨k+1,Rl S w a (ol V),{ w with L:=some (uA (ol w.L) a.target.aE a.root (ol V)).1 },_,⟨by simp only[E8,seval,hI,bS],by simp only[E8,seval,hI,aT,aX]<;>rfl,by simp only[E8,seval,hI,bS],by simp only[E8,seval,hI,aT,aX,f2],by simp only[E8,seval,hI,bS],by simp only[E8,seval,hI,bS],by simp only[E8,seval,hI,aX,c1],by simp only[E8,seval,hI,aX,c2]⟩,.inl ⟨rfl,Li⟩,Pa,Fe,hC,by show (ol w.E).length<=k+1;omega,by omega,rfl⟩
    ·have hLf:∀x∈L,Flat x.eM:=fun x hx=>(hG.sd.eV x (by rw[Li];exact hx)).fl
     have k39o:∀(st:St) (d:Option Nat),st.heap 61 g=some (.row 87 67 L.length (dT L))->_:=fun st d h61=>k39 st d (by rw[Li];exact BX hG.sd hLf st h61)
     by_cases g2:(Iw (xY S (ov dT w.E)) w a (ol V)).2=0
     case neg =>
      apply Dr ((ol E).length-(k+1))
      ·simp only[ZG,seval,Cz,hI,hh,aW,q0,ea,Lq,Aa,g1,k39o,dR,bf g2,hw];rfl
      ·exact⟨k+1,S,w,_,by and_intros<;>(simp only[E8,seval,hI]<;>rfl),.inr ⟨g,L,Li,rfl,by simp only[E8,seval]<;>omega,by simp only[E8,seval,hh]⟩,hG,nU,hC,by omega,by omega,rfl⟩
     have hr:∀x∈ol V,0<=x/\x<(ol w.L).length:=by rw[hG.JB];exact ZI (BP g2)
     obtain⟨G,Uw⟩:=aGW hG.sd (.own 61 g) a V hV (by omega) hr
     have kG:∀st,qH prog 44 [.agg (aA (xY S (.own 61 g))),.agg (iD a)] st=some (.agg (aA (xY (Rl S w a (ol V)) (.own 61 g))),G st):=fun st=>(Uw st).1
     have f1:∀st:St,0<st.aQ 1->(G st).heap 1 0=st.heap 1 0:=fun st h=>(Uw st).2.1 1 0 h
     have f2:∀st:St,0<st.aQ 2->(G st).heap 2 0=st.heap 2 0:=fun st h=>(Uw st).2.1 2 0 h
     have f3:∀st:St,g<st.aQ 61->(G st).heap 61 g=st.heap 61 g:=fun st h=>(Uw st).2.1 61 g h
     have c1:∀st:St,0<st.aQ 1->(0<(G st).aQ 1)=True:=fun st h=>eq_true (Nat.lt_of_lt_of_le h ((Uw st).2.2 1))
     have c2:∀st:St,0<st.aQ 2->(0<(G st).aQ 2)=True:=fun st h=>eq_true (Nat.lt_of_lt_of_le h ((Uw st).2.2 2))
     have c3:∀st:St,g<st.aQ 61->(g<(G st).aQ 61)=True:=fun st h=>eq_true (Nat.lt_of_lt_of_le h ((Uw st).2.2 61))
     apply Dr ((ol E).length-(k+1))
     ·simp only[ZG,seval,Cz,hI,hh,aW,q0,ea,Lq,Aa,g1,k39o,dR,bt g2,aMC,kG,f1,bS,aT,aX,hw];rfl
     ·exact⟨k+1,Rl S w a (ol V),{ w with L:=some (uA (ol w.L) a.target.aE a.root (ol V)).1 },_,⟨by simp only[E8,seval,hI,bS],by simp only[E8,seval,hI,aT,aX]<;>rfl,by simp only[E8,seval,hI,bS],by simp only[E8,seval,hI,aT,aX,f2],by simp only[E8,seval,hI,bS],by simp only[E8,seval,hI,bS],by simp only[E8,seval,hI,aX,c1],by simp only[E8,seval,hI,aX,c2]⟩,.inr ⟨g,L,Li,rfl,by simp only[E8,seval,aX,hg,c3],by simp only[E8,seval,aT,aX,hg,hh,f3]⟩,Pa,Fe,hC,by show (ol w.E).length<=k+1;omega,by omega,rfl⟩
 obtain⟨r,h,hq⟩:=key
 cases hx:xZ prog true Lr st with
 | none=>rw[hx] at h;cases h
 | some y=>rw[hx] at h;simp only[cF,aAk] at h;subst h;exact⟨y.1,y.2,rfl,hq⟩
def aQ8 {s:aL} {v:SV} {q:Int} (h:GI s v q) (r:RG s v):∃x,aG prog 202 [.agg (aA s)]=some x/\StR s q x:=by
 have hz:=Ln
 have hf:=h.sd.flat
 have Qi:=h.sp
 rw[cG func202 rfl rfl]
 by_cases g1:1099511627776<=s.now
 ·simp only[ZG,seval,Cz,g1];exact⟨_,by apply dN;rfl;all_goals simp only[aJ,bY,Z8,seval,hz]<;>rfl,gC,3,rfl,hz,by decide,fun h=>by cases h⟩
 have hw:u64.wrap (s.now+1)=s.now+1:=wrap_u64 _ (by have:=r.now.1;omega) (by have:=r.now.2;omega)
 obtain⟨s1,hs1⟩:∃s1:aL,s1={ s with now:=s.now+1,dV:=cO }:=⟨_,rfl⟩
 have h1:GI s1 v q:=by
  rw[hs1];exact⟨⟨h.sd.iF,h.sd.dS,h.sd.gA,h.sd.early,h.sd.bN,h.sd.tree,h.sd.tables,h.sd.eV,h.sd.tB,h.sd.nB,h.sd.nL,h.sd.nQ,h.sd.nE,h.sd.nO,h.sd.nT,h.sd.nn⟩,h.up,h.Ww,h.pos,h.nl,h.PK,h.jS,h.JB,h.nB,h.nO,h.LJ,h.nE,h.PL,h.nT,h.PM,h.nQ,h.O7,h.eI⟩
 have r1:RG s1 v:=by
  rw[hs1];exact⟨⟨⟨by show 0<=s.now+1;have:=r.now.1;omega,by show s.now+1<=_;omega⟩,r.j,r.f,fun n hn=>⟨(r.nd n hn).1,by show n.block.slot<=s.now+1;have:=(r.nd n hn).2;omega⟩,r.or,r.rt,⟨r.fe.1,Int.le_trans r.fe.2 (show wL s s.now<=wL s (s.now+1) from SA h.jS.1 r.now.1 (by omega) (by have:=r.now.2;omega))⟩,r.ds,r.tb,r.ne,(r.vs.JH (n:=s.now+1) (by omega)).dV cO (.inl rfl)⟩,r.op⟩
 have hEv:∀a∈ol v.E,∃V,a.eM=ov aM (some V)/\Lk V (aIn s.cFg.iF)=0:=by rw[h.sd.iF,I3];exact r.vs.ea
 have c1:s1.cFg=s.cFg:=by rw[hs1]
 have nE:=h.nE
 have PL:=h.PL
 subst hs1;have uE:∀(S:aL) (w:SV) (a b:dL),(rE S w a b).E=w.E:=fun S w a b=>by unfold rE;split;rfl;split<;>rfl
 by_cases g2:(s.now+1).tmod s.cFg.jS=0
 case neg =>
  simp only[ZG,seval,Cz,g1,hw,Qi,bf g2,h.sd.early];refine Ls (a:=Lr) (aEw s.cFg q) (aBa (E:=v.E) h.sd.eV r.ne.ea hEv (by omega) (by omega) (m:=(ol v.E).length) ⟨0,{ s with now:=s.now+1,dV:=cO },{ v with E:=none },.v (.slice none 0 0),⟨by simp only[E8,seval],by simp only[E8,seval]<;>rfl,by simp only[E8,seval],by simp only[E8,seval],by simp only[E8,seval],by simp only[E8,seval]<;>rfl,by simp only[E8,seval]<;>omega,by simp only[E8,seval]<;>omega⟩,.inl ⟨rfl,rfl⟩,h1.early none (by simp[ol]) (by show ((0:Nat):Int)<=_;rw[c1];omega),⟨⟨r1.now,r1.j,r1.f,r1.nd,r1.or,r1.rt,r1.fe,r1.ds,r1.tb,⟨r1.ne.q,nofun,r1.ne.o,r1.ne.t,(fun a ha=>by cases ha),r1.ne.tb⟩,r1.vs.early none _ fun a ha=>by cases ha⟩,r1.op⟩,c1,by simp[ol],by omega,by omega⟩) ?rest
  rintro e st ⟨rfl,S,w,X,hI,hX,hG,nU,hC⟩
  have Xd:=hG.sd.flat
  rcases hX with ⟨rfl,Li⟩|⟨g,L,Li,rfl,hh⟩
  ·rw[Li] at Xd hG nU;have hf1:Flat (.agg (aA (xY S (.v (.slice none 0 0))))):=Xd
   simp only[ZG,seval,Cz,hI];exact⟨_,by apply dN;rfl;all_goals simp only[aJ,bY,Z8,seval,hI,hf1]<;>rfl,_,0,rfl,hf1,by decide,fun _=>⟨w,hG,nU,hC⟩⟩
  ·have hLf:∀x∈L,Flat x.eM:=fun x hx=>(hG.sd.eV x (by rw[Li];exact hx)).fl
   have hex:∀st:St,st.heap 61 g=some (.row 87 67 L.length (dT L))->fS st (.agg (aA (xY S (.own 61 g))))=some (.agg (aA (xY S (ov dT (some L))))):=fun st hh=>BX hG.sd hLf st hh
   rw[Li] at Xd hG nU;simp only[ZG,seval,Cz,hI];exact⟨_,by apply dN;rfl;all_goals simp only[aJ,bY,Z8,seval,hI,hh,hex]<;>rfl,_,0,rfl,Xd,by decide,fun _=>⟨w,hG,nU,hC⟩⟩
 have k67':=k67 h1.sd
 have pv:=aEv fun n hn=>(r1.nd n hn).1
 have k61':=k61 h1.sd h1.up h1.sp (Mw v.ns).pj (Mw v.ns).pf
 have h2:=h1.dP (Mw v.ns).pj (Mw v.ns).pf
 have r2:=RG.dP r1 pv.1 pv.2
 have c2:=uB { s with now:=s.now+1,dV:=cO } v (Mw v.ns).pj (Mw v.ns).pf
 have e2:=h2.sd.early
 rw[uE] at e2;obtain⟨S2,hS2⟩:∃S2,pV { s with now:=s.now+1,dV:=cO } v (Mw v.ns).pj (Mw v.ns).pf=S2:=⟨_,rfl⟩
 rw[hS2] at k61' h2 r2 c2 e2
 have c3:S2.cFg=s.cFg:=c2
 simp only[ZG,seval,Cz,g1,hw,Qi,bt g2,k67',k61',e2];refine Ls (a:=Lr) (aEw s.cFg q) (aBa (E:=v.E) h.sd.eV r.ne.ea hEv (by omega) (by omega) (m:=(ol v.E).length) ⟨0,S2,{ rE { s with now:=s.now+1,dV:=cO } v (Mw v.ns).pj (Mw v.ns).pf with E:=none },.v (.slice none 0 0),⟨by simp only[E8,seval],by simp only[E8,seval]<;>rfl,by simp only[E8,seval],by simp only[E8,seval],by simp only[E8,seval],by simp only[E8,seval]<;>rfl,by simp only[E8,seval]<;>omega,by simp only[E8,seval]<;>omega⟩,.inl ⟨rfl,rfl⟩,h2.early none (by simp[ol]) (by show ((0:Nat):Int)<=_;rw[c3];omega),⟨⟨r2.now,r2.j,r2.f,r2.nd,r2.or,r2.rt,r2.fe,r2.ds,r2.tb,⟨r2.ne.q,nofun,r2.ne.o,r2.ne.t,(fun a ha=>by cases ha),r2.ne.tb⟩,r2.vs.early none _ fun a ha=>by cases ha⟩,r2.op⟩,c3,by simp[ol],by omega,by omega⟩) ?BM
 rintro e st ⟨rfl,S,w,X,hI,hX,hG,nU,hC⟩
 have Xd:=hG.sd.flat
 rcases hX with ⟨rfl,Li⟩|⟨g,L,Li,rfl,hh⟩
 ·rw[Li] at Xd hG nU;have hf1:Flat (.agg (aA (xY S (.v (.slice none 0 0))))):=Xd
  simp only[ZG,seval,Cz,hI];exact⟨_,by apply dN;rfl;all_goals simp only[aJ,bY,Z8,seval,hI,hf1]<;>rfl,_,0,rfl,hf1,by decide,fun _=>⟨w,hG,nU,hC⟩⟩
 ·have hLf:∀x∈L,Flat x.eM:=fun x hx=>(hG.sd.eV x (by rw[Li];exact hx)).fl
  have hex:∀st:St,st.heap 61 g=some (.row 87 67 L.length (dT L))->fS st (.agg (aA (xY S (.own 61 g))))=some (.agg (aA (xY S (ov dT (some L))))):=fun st hh=>BX hG.sd hLf st hh
  rw[Li] at Xd hG nU;simp only[ZG,seval,Cz,hI];exact⟨_,by apply dN;rfl;all_goals simp only[aJ,bY,Z8,seval,hI,hh,hex]<;>rfl,_,0,rfl,Xd,by decide,fun _=>⟨w,hG,nU,hC⟩⟩
end Go.Ab.Tryz
