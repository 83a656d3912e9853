/-
  Part 18 of the proof: an evaluator of programs, its soundness, and what functions of this program compute.
-/
import Derived.Test.YtmcjkemalibacaaGreatK17
import Derived.Test.YtmcjkemalibacaaGreatK15
import Derived.Test.YtmcjkemalibacaaGreatK10
set_option linter.all false
set_option maxRecDepth 20000
set_option maxHeartbeats 40000000
open Go.IntKind (i64 u64)
open List Go.Proofs.Tryz
noncomputable section
namespace Go.Ab.Tryz
open Classical Go.Proofs Go.Ab
def Cc (s g:Nat) (st st':St):Prop:=(∀x h,h<st.aQ x->¬(x=s/\h=g)->st'.heap x h=st.heap x h)/\∀x,st.aQ x<=st'.aQ x
def Cc.refl (s g:Nat) (st:St):Cc s g st st:=⟨fun _ _ _ _=>rfl,fun _=>Nat.le_refl _⟩
def Fi:aB 0 1 (some 4)=[]/\aB 1 4 (some 8)=[]/\aB 2 2 (some 11)=[]/\aB 3 2 (some 13)=[]/\aB 4 3 (some 14)=[]/\aB 5 4 (some 16)=[]/\aB 6 3 (some 20)=[]/\aB 7 6 (some 22)=[]/\aB 8 4 (some 26)=[]/\aB 9 5 (some 30)=[]/\aB 10 3 (some 34)=[]/\aB 11 4 (some 36)=[]/\aB 12 4 (some 39)=[]:=⟨rfl,rfl,rfl,rfl,rfl,rfl,rfl,rfl,rfl,rfl,rfl,rfl,rfl⟩
structure KOk (K:St->Prop) (s g e sz:Nat) (cs:Nat->List AV->Prop):Prop where
 put:∀st d v,K (St.put st d v)=K st
 new:∀st x,K (St.new st 7 x)=K st
 set:∀st h x,K (St.jG st 7 h x)=K st
 back:∀a st,K (St.back a st)=K st
 row:∀st n C,cs n C->K st->K (St.jG st s g (some (.row e sz n C)))
def JU {α:Type} {p:α->Bool} {l:List α} (h:∀j:Nat,j<l.length->∀hj:j<l.length,¬p l[j]=true):l.filter (fun x=>!p x)=l:=by
 refine filter_eq_self.2 fun x hx=>?_
 obtain⟨i,hi,rfl⟩:=getElem_of_mem hx
 simpa using h i hi hi
def CE {α:Type} {p:α->Bool} {l:List α} {k:Nat} (hk:k<l.length) (hp:p l[k]=true) (h:∀j:Nat,j<k->∀hj:j<l.length,¬p l[j]=true):(l.take (k+1)).filter (fun x=>!p x)=l.take k:=by
 rw[take_succ_eq_append_getElem hk,filter_append];have h1:(l.take k).filter (fun x=>!p x)=l.take k:=by
  refine filter_eq_self.2 fun x hx=>?_
  obtain⟨i,hi,rfl⟩:=getElem_of_mem hx
  rw[length_take] at hi;rw[getElem_take];simpa using h i (by omega) (by omega)
 simp[h1,hp]
def JV {α:Type} {q:α->Bool} {l:List α} {k:Nat} (hk:k<l.length):(l.take (k+1)).filter q=(l.take k).filter q++(if q l[k]=true then [l[k]] else []):=by
 rw[take_succ_eq_append_getElem hk,filter_append];congr 1
 by_cases h:q l[k]=true<;>simp[h]
def J2 {α:Type} {p:α->Bool} {l:List α} {k:Nat} (hk:k<l.length) (hp:p l[k]=true):(l.filter (fun x=>!p x)).length<l.length:=by
 rcases Nat.lt_or_ge (l.filter (fun x=>!p x)).length l.length with h|h
 ·exact h
 ·have h2:=List.Sublist.eq_of_length_le (filter_sublist (p:=fun x=>!p x) (l:=l)) h
  have h3:=(filter_eq_self.1 h2) _ (getElem_mem hk)
  simp[hp] at h3
def J3 {α:Type} {z:α} {M L:List α} {j:Nat} (h:M.drop j=L.drop j):gx z M (j:Int)=gx z L (j:Int):=by
 have h1:(M.drop j)[0]? = (L.drop j)[0]?:=by rw[h]
 rw[getElem?_drop,getElem?_drop,Nat.add_zero] at h1;unfold gx;rw[Int.toNat_natCast,getD_eq_getElem?_getD,getD_eq_getElem?_getD,h1]
def zS {α:Type} {M L:List α} {j:Nat} (h:M.drop j=L.drop j):M.drop (j+1)=L.drop (j+1):=by
 have:=congrArg (List.drop 1) h
 rwa [drop_drop,drop_drop] at this
def Bi {α:Type} {z:α} {l:List α} {j:Nat} (h:j<l.length):gx z l (j:Int)=l[j]:=by
 unfold gx;rw[Int.toNat_natCast,getD_eq_getElem?_getD,getElem?_eq_getElem h];rfl
def SS {α:Type} {M:List α} {k:Nat} (hk:k<M.length) (x:α):(M.set k x).take (k+1)=M.take k++[x]:=by
 rw[take_succ_eq_append_getElem (by rw[length_set];exact hk),take_set_of_le (Nat.le_refl _),getElem_set_self]
def set_drop {α:Type} {M:List α} {k j:Nat} (h:k<j) (x:α):(M.set k x).drop j=M.drop j:=by
 rw[drop_set_of_lt h]
def aIB (L:List Table) (hn:(L.length:Int)<1000000) (hFl:∀y∈L,Flat y.iF) (p:Table->Bool) (F s g a b:Nat) (h7:s≠7) (K:St->Prop) (hK:KOk K s g 118 34 (fun n C=>∃M:List Table,n=M.length/\M.length=L.length/\C=aN M/\(∀y∈M,Flat y.iF)))
 (zO:∀x∈L,∀(st:St) (d:Option Nat),K st->bH (aG prog) F ([.agg (bZ x)]++[.ptr a b 0]) st d=some { dst:=d,val:=.v (.bool (p x))})
 (F9:∀(st:St) (d:Option Nat),K st->st.heap s g=some (.row 118 34 L.length (aN L))->bH (aG prog) 173 [.own s g,.sH F [.ptr a b 0]] st d=some { dst:=d,val:=.v (.int .i64 (sZ (fun k=>p (gx dM L k)=true) L.length))})
 (Rx:St) (rC:K Rx) (hg:g<Rx.aQ s) (hh:Rx.heap s g=some (.row 118 34 L.length (aN L))) :
 ∃st',if L.filter (fun x=>!p x)=L then qH prog 123 [.own s g,.sH F [.ptr a b 0]] Rx=some (.own s g,st')/\Cc s g Rx st'/\st'.heap s g=some (.row 118 34 L.length (aN L)) else
  qH prog 123 [.own s g,.sH F [.ptr a b 0]] Rx=some (.vw s g 0 (L.filter (fun x=>!p x)).length,st')/\Cc s g Rx st'/\∃Z,(∀c∈Z,Flat c)/\((aN (L.filter (fun x=>!p x)))++Z).length=L.length * 34/\st'.heap s g=some (.row 118 34 L.length (aN (L.filter (fun x=>!p x))++Z)):=by
 have SU:=hK.put
 have l5:=hK.new
 have l6:=hK.set
 have hKb:=hK.back
 have s7:(s=7)=False:=eq_false h7
 have s7':(7=s)=False:=eq_false (fun e=>h7 e.symm)
 rcases lS (fun k=>p (gx dM L k)=true) L.length with ⟨e,hj⟩|⟨k,hk,hp,hj,e⟩
 ·have hf:L.filter (fun x=>!p x)=L:=JU fun j h1 h2=>by have:=hj j h1;rwa [Bi h2] at this
  rw[e] at F9;suffices h:∃r:AV × St,qH prog 123 [.own s g,.sH F [.ptr a b 0]] Rx=some r/\r.1=.own s g/\Cc s g Rx r.2/\r.2.heap s g=some (.row 118 34 L.length (aN L)) by
   obtain⟨⟨x,st'⟩,h1,h2,h3,h4⟩:=h
   obtain rfl:x=.own s g:=h2
   exact⟨st',by rw[if_pos hf];exact⟨h1,h3,h4⟩⟩
  rw[Cx prog func123 rfl (by kernel_rfl)]
  simp only[ZG,seval,Fi,bS,aT,SU,l5,l6,hKb,rC,hh,F9];refine⟨_,yB (P:=prog) (fn:=Tryz.f123) (r:=.tmp 4) (x:=.own s g) (.inl rfl) rfl ?h1,rfl,⟨fun y h h1 h2=>?h2,fun y=>?h3⟩, ?h4⟩
  case h1=>rw[rV];simp only[bY,E8,seval]
  case h2=>simp only[E8,seval,aT,aX]
  case h3=>simp only[E8,seval,aT,aX];exact Nat.le_refl _
  case h4=>simp only[E8,seval,aT,aX,hh]
 ·have aW:=J2 (p:=p) hk (by have:=hp;rwa [Bi hk] at this)
  have hf:¬L.filter (fun x=>!p x)=L:=fun e=>by rw[e] at aW;omega
  rw[e] at F9;suffices h:∃r:AV × St,qH prog 123 [.own s g,.sH F [.ptr a b 0]] Rx=some r/\r.1=.vw s g 0 (L.filter (fun x=>!p x)).length/\Cc s g Rx r.2/\∃Z,(∀c∈Z,Flat c)/\((aN (L.filter (fun x=>!p x)))++Z).length=L.length * 34/\r.2.heap s g=some (.row 118 34 L.length (aN (L.filter (fun x=>!p x))++Z)) by
   obtain⟨⟨x,st'⟩,h1,h2,h3⟩:=h
   obtain rfl:x=.vw s g 0 (L.filter (fun x=>!p x)).length:=h2
   exact⟨st',by rw[if_neg hf];exact⟨h1,h3⟩⟩
  have Q4:¬(k:Int)=-1:=by omega
  have hw0:=wk (k:=k) (by omega)
  rw[Cx prog func123 rfl (by kernel_rfl)]
  simp only[ZG,seval,Fi,bS,aT,SU,l5,l6,hKb,rC,hh,F9,bf Q4,hw0];refine kZ (fun m st=>∃(j k':Nat) (M:List Table),((st.env 0=.own s g/\st.env 1=.sH F [.ptr a b 0]/\st.env 5=.v (.int .i64 (k':Nat))/\st.heap s g=some (.row 118 34 M.length (aN M))/\K st)/\st.env 6=.v (.int .i64 (j:Nat)))/\Cc s g Rx st/\M.length=L.length/\(∀y∈M,Flat y.iF)/\M.take k'=(L.take j).filter (fun x=>!p x)/\k'=((L.take j).filter (fun x=>!p x)).length/\M.drop j=L.drop j/\k'<j/\j<=L.length/\m=L.length-j)
   (fun e st=>e=.exit 0/\∃(k':Nat) (M:List Table),((st.env 0=.own s g/\st.env 1=.sH F [.ptr a b 0]/\st.env 5=.v (.int .i64 (k':Nat))/\st.heap s g=some (.row 118 34 M.length (aN M))/\K st))/\Cc s g Rx st/\M.length=L.length/\(∀y∈M,Flat y.iF)/\M.take k'=L.filter (fun x=>!p x)/\k'=(L.filter (fun x=>!p x)).length) (L.length-(k+1)) ?step ?start ?rest
  case step =>
   rintro m st ⟨j,k',M,hI,hF,hM,hMf,hT,CF,hD,hkj,hj',hm⟩
   by_cases Ij:(j:Int)<M.length
   case neg =>
    have hjn:j=L.length:=by omega
    subst hjn;rw[take_length] at hT CF
    apply IY (.exit 0)
    ·simp only[ZG,seval,Fi,hI,Ij];rfl
    ·exact⟨rfl,k',M,by simp only[E8,seval,SU,hI],⟨fun y h h1 h2=>by simp only[E8,seval];exact hF.1 y h h1 h2,fun y=>by simp only[E8,seval];exact hF.2 y⟩,hM,hMf,hT,CF⟩
   have hjL:j<L.length:=by omega
   have q0:(0:Int)<=j:=by omega
   have q1:(0:Int)<=k':=by omega
   have q2:(k':Int)<M.length:=by omega
   have q3:(k':Int).toNat<M.length:=by omega
   have hwj:=wk (k:=j) (by omega)
   have hwk:=wk (k:=k') (by omega)
   have hx:=J3 (z:=dM) hD
   have hxe:=Bi (z:=dM) hjL
   obtain⟨x,hxx⟩:∃x,L[j]=x:=⟨_,rfl⟩
   rw[hxe,hxx] at hx;have hxm:x∈L:=by rw[<- hxx];exact getElem_mem _
   have kc:=zO x hxm
   have Z0:sK prog 118 (some (.row 118 34 M.length (aN M))) ((j:Int).toNat * 34)=eZ prog 118 (bZ x) 0:=by rw[SW (k:=34) q0 Ij aG8 (by decide) (by decide),hx]
   have JG:=JV (q:=fun x=>!p x) hjL
   rw[hxx] at JG;have q4:(k':Int).toNat * 34+34<=M.length * 34:=by omega
   have aBA:∀oC:St,K oC->K (St.jG oC s g (some (.row 118 34 M.length (aN (M.set k' x))))):=fun oC=>hK.row oC _ _ ⟨M.set k' x,by rw[length_set],by rw[length_set];exact hM,rfl,fun y hy=>(mem_or_eq_of_mem_set hy).elim (hMf y) fun e=>by rw[e];exact hFl x hxm⟩
   by_cases XR:p x=true
   ·rw[XR] at kc;simp only[XR,Bool.not_true,Bool.false_eq_true,if_false,append_nil] at JG;apply Dr (L.length-(j+1))
    ·simp only[ZG,seval,Fi,hI,SU,l5,l6,Ij,q0,Z0,kc,hwj,s7,s7'];rfl
    ·exact⟨j+1,k',M,by simp only[E8,seval,hI,SU,l5,l6,s7,s7'],⟨fun y h h1 h2=>by
      have n7:(y=7/\h=st.aQ 7)=False:=eq_false (by rintro⟨rfl,rfl⟩;have:=hF.2 7;omega)
      have ng:(y=s/\h=g)=False:=eq_false h2
      simp only[E8,seval,n7,ng,if_false];exact hF.1 y h h1 h2,fun y=>by
      have:=hF.2 y
      simp only[E8,seval];split<;>(try subst_vars)<;>omega⟩,hM,hMf,by rw[JG];exact hT,by rw[JG];exact CF,zS hD,by omega,by omega,rfl⟩
   ·have hp2:p x=false:=by simpa using XR
    rw[hp2] at kc;simp only[hp2,Bool.not_false,if_true] at JG;apply Dr (L.length-(j+1))
    ·simp only[ZG,seval,Fi,hI,SU,l5,l6,Ij,q0,q1,q2,q3,q4,Z0,kc,hwj,hwk,s7,s7'];rfl
    ·exact⟨j+1,k'+1,M.set k' x,by simp only[E8,seval,hI,SU,l5,l6,s7,s7',aBA,length_set,Int.toNat_natCast],⟨fun y h h1 h2=>by
      have n7:(y=7/\h=st.aQ 7)=False:=eq_false (by rintro⟨rfl,rfl⟩;have:=hF.2 7;omega)
      have ng:(y=s/\h=g)=False:=eq_false h2
      simp only[E8,seval,n7,ng,if_false];exact hF.1 y h h1 h2,fun y=>by
      have:=hF.2 y
      simp only[E8,seval];split<;>(try subst_vars)<;>omega⟩,by rw[length_set];exact hM,fun y hy=>(mem_or_eq_of_mem_set hy).elim (hMf y) fun e=>by rw[e];exact hFl x hxm,by rw[SS (by omega),hT,JG],by rw[JG,length_append,<- CF];rfl,by rw[set_drop (by omega)];exact zS hD,by omega,by omega,rfl⟩
  case start =>
   have ff:=CE (p:=p) hk (by have:=hp;rwa [Bi hk] at this) (fun j h1 h2=>by have:=hj j h1;rwa [Bi h2] at this)
   exact⟨k+1,k,L,by simp only[E8,seval,bS,aT,SU,l5,l6,hKb,rC,hh],⟨fun y h h1 h2=>by simp only[E8,seval,aT],fun y=>by simp only[E8,seval,aX];exact Nat.le_refl _⟩,rfl,hFl,ff.symm,by rw[ff,length_take];omega,rfl,by omega,by omega,rfl⟩
  case rest =>
   rintro e st ⟨rfl,k',M,hI,hF,hM,hMf,hT,CF⟩
   have Cn:k'<M.length:=by omega
   have sv:∀(st:St) (lo:Operand),st.heap s g=some (.row 118 34 M.length (aN M))->st.ev lo=.v (.int .i64 k')->cZ prog st 51 (.own s g) (some lo) none=some (.vw s g (k' * 34) (M.length-k')):=fun st lo hh he=>by
    have h1:¬((k':Int)=M.length/\¬((k':Int)=0/\0<M.length)):=by omega
    have h2:(0:Int)<=k'/\(k':Int)<=M.length:=by omega
    have h3:((M.length:Int)-(k':Int)).toNat=M.length-k':=by omega
    simp only[cZ,Va,hh,he,if_neg h1,h2,h3,Int.le_refl,and_self,if_true,Int.toNat_natCast]
   obtain⟨Z,cl,hZ,hZl⟩:∃Z,(∀st:St,st.heap s g=some (.row 118 34 M.length (aN M))->sQ prog st 51 (.vw s g (k' * 34) (M.length-k'))=some (some (s,g,.row 118 34 M.length (aN (M.take k')++Z))))/\(∀c∈Z,Flat c)/\Z.length=(M.length-k') * 34:=by
    refine⟨(List.range (M.length-k')).flatMap fun _=>Ph.map AV.v,fun st hh=>?_,fun c hc=>?_, ?_⟩
    ·have hc:k' * 34+(M.length-k') * 34<=(aN M).length:=by rw[yF];omega
     simp only[sQ,Va,aBB,hh];rw[if_pos ⟨trivial,trivial,hc⟩];have hd:(aN M).drop (k' * 34+(M.length-k') * 34)=[]:=drop_of_length_le (by rw[yF];omega)
     rw[hd,append_nil];congr 5
     exact congrArg (· ++ _) (xI (c:=bZ) (sz:=34) eR M k')
    ·obtain⟨_,_,hc⟩:=mem_flatMap.1 hc
     obtain⟨x,_,rfl⟩:=mem_map.1 hc
     exact .v x
    ·have hv:(Ph.map AV.v).length=34:=by kernel_rfl
     generalize M.length-k'=m
     induction m with
     | zero=>rfl
     | succ m ih=>rw[range_succ,flatMap_append,length_append,ih];simp only[flatMap_cons,flatMap_nil,append_nil,hv];omega
   have sv2:∀(st:St) (hi:Operand),st.heap s g=some (.row 118 34 M.length (aN (M.take k')++Z))->st.ev hi=.v (.int .i64 k')->cZ prog st 51 (.own s g) none (some hi)=some (.vw s g 0 k'):=fun st hi hh he=>by
    have h1:¬((0:Int)=k'/\¬((0:Int)=0/\0<M.length)):=by omega
    have h2:(0:Int)<=k'/\(k':Int)<=M.length:=by omega
    simp only[cZ,Va,hh,he,if_neg h1,h2,Int.le_refl,and_self,if_true];simp
    intro h3 h4;rw[h4] at Cn;simp at Cn
   simp only[ZG,seval,Fi,hI,sv,cl,sv2,SX];refine⟨_,yB (P:=prog) (fn:=Tryz.f123) (r:=.tmp 4) (x:=.vw s g 0 k') (.inl rfl) rfl ?h1,by rw[CF],⟨fun y h h1 h2=>?h2,fun y=>?h3⟩,Z,hZ, ?h4, ?h5⟩
   case h1=>rw[rV];simp only[bY,E8,seval]
   case h2 =>
    have ng:(y=s/\h=g)=False:=eq_false h2
    simp only[E8,seval,ng,if_false];exact hF.1 y h h1 h2
   case h3=>simp only[E8,seval];exact hF.2 y
   case h4=>rw[length_append,yF,hZl,<- CF,hM,<- Nat.add_mul];congr 1;omega
   case h5=>simp only[E8,seval,hT,hM]
def aIE (L:List Block) (hn:(L.length:Int)<1000000) (p:Block->Bool) (F s g a b:Nat) (h7:s≠7) (K:St->Prop) (hK:KOk K s g 74 238 (fun n C=>∃M:List Block,n=M.length/\M.length=L.length/\C=aH M))
 (zO:∀x∈L,∀(st:St) (d:Option Nat),K st->bH (aG prog) F ([.agg (aU x)]++[.ptr a b 0]) st d=some { dst:=d,val:=.v (.bool (p x))})
 (F9:∀(st:St) (d:Option Nat),K st->st.heap s g=some (.row 74 238 L.length (aH L))->bH (aG prog) 171 [.own s g,.sH F [.ptr a b 0]] st d=some { dst:=d,val:=.v (.int .i64 (sZ (fun k=>p (gx dO L k)=true) L.length))})
 (Rx:St) (rC:K Rx) (hg:g<Rx.aQ s) (hh:Rx.heap s g=some (.row 74 238 L.length (aH L))) :
 ∃st',if L.filter (fun x=>!p x)=L then qH prog 126 [.own s g,.sH F [.ptr a b 0]] Rx=some (.own s g,st')/\Cc s g Rx st'/\st'.heap s g=some (.row 74 238 L.length (aH L)) else
  qH prog 126 [.own s g,.sH F [.ptr a b 0]] Rx=some (.vw s g 0 (L.filter (fun x=>!p x)).length,st')/\Cc s g Rx st'/\∃Z,(∀c∈Z,Flat c)/\((aH (L.filter (fun x=>!p x)))++Z).length=L.length * 238/\st'.heap s g=some (.row 74 238 L.length (aH (L.filter (fun x=>!p x))++Z)):=by
 have SU:=hK.put
 have l5:=hK.new
 have l6:=hK.set
 have hKb:=hK.back
 have s7:(s=7)=False:=eq_false h7
 have s7':(7=s)=False:=eq_false (fun e=>h7 e.symm)
 rcases lS (fun k=>p (gx dO L k)=true) L.length with ⟨e,hj⟩|⟨k,hk,hp,hj,e⟩
 ·have hf:L.filter (fun x=>!p x)=L:=JU fun j h1 h2=>by have:=hj j h1;rwa [Bi h2] at this
  rw[e] at F9;suffices h:∃r:AV × St,qH prog 126 [.own s g,.sH F [.ptr a b 0]] Rx=some r/\r.1=.own s g/\Cc s g Rx r.2/\r.2.heap s g=some (.row 74 238 L.length (aH L)) by
   obtain⟨⟨x,st'⟩,h1,h2,h3,h4⟩:=h
   obtain rfl:x=.own s g:=h2
   exact⟨st',by rw[if_pos hf];exact⟨h1,h3,h4⟩⟩
  rw[Cx prog func126 rfl (by kernel_rfl)]
  simp only[ZG,seval,Fi,bS,aT,SU,l5,l6,hKb,rC,hh,F9];refine⟨_,yB (P:=prog) (fn:=Tryz.f126) (r:=.tmp 4) (x:=.own s g) (.inl rfl) rfl ?h1,rfl,⟨fun y h h1 h2=>?h2,fun y=>?h3⟩, ?h4⟩
  case h1=>rw[rV];simp only[bY,E8,seval]
  case h2=>simp only[E8,seval,aT,aX]
  case h3=>simp only[E8,seval,aT,aX];exact Nat.le_refl _
  case h4=>simp only[E8,seval,aT,aX,hh]
 ·have aW:=J2 (p:=p) hk (by have:=hp;rwa [Bi hk] at this)
  have hf:¬L.filter (fun x=>!p x)=L:=fun e=>by rw[e] at aW;omega
  rw[e] at F9;suffices h:∃r:AV × St,qH prog 126 [.own s g,.sH F [.ptr a b 0]] Rx=some r/\r.1=.vw s g 0 (L.filter (fun x=>!p x)).length/\Cc s g Rx r.2/\∃Z,(∀c∈Z,Flat c)/\((aH (L.filter (fun x=>!p x)))++Z).length=L.length * 238/\r.2.heap s g=some (.row 74 238 L.length (aH (L.filter (fun x=>!p x))++Z)) by
   obtain⟨⟨x,st'⟩,h1,h2,h3⟩:=h
   obtain rfl:x=.vw s g 0 (L.filter (fun x=>!p x)).length:=h2
   exact⟨st',by rw[if_neg hf];exact⟨h1,h3⟩⟩
  have Q4:¬(k:Int)=-1:=by omega
  have hw0:=wk (k:=k) (by omega)
  rw[Cx prog func126 rfl (by kernel_rfl)]
  simp only[ZG,seval,Fi,bS,aT,SU,l5,l6,hKb,rC,hh,F9,bf Q4,hw0];refine kZ (fun m st=>∃(j k':Nat) (M:List Block),((st.env 0=.own s g/\st.env 1=.sH F [.ptr a b 0]/\st.env 5=.v (.int .i64 (k':Nat))/\st.heap s g=some (.row 74 238 M.length (aH M))/\K st)/\st.env 6=.v (.int .i64 (j:Nat)))/\Cc s g Rx st/\M.length=L.length/\M.take k'=(L.take j).filter (fun x=>!p x)/\k'=((L.take j).filter (fun x=>!p x)).length/\M.drop j=L.drop j/\k'<j/\j<=L.length/\m=L.length-j)
   (fun e st=>e=.exit 0/\∃(k':Nat) (M:List Block),((st.env 0=.own s g/\st.env 1=.sH F [.ptr a b 0]/\st.env 5=.v (.int .i64 (k':Nat))/\st.heap s g=some (.row 74 238 M.length (aH M))/\K st))/\Cc s g Rx st/\M.length=L.length/\M.take k'=L.filter (fun x=>!p x)/\k'=(L.filter (fun x=>!p x)).length) (L.length-(k+1)) ?step ?start ?rest
  case step =>
   rintro m st ⟨j,k',M,hI,hF,hM,hT,CF,hD,hkj,hj',hm⟩
   by_cases Ij:(j:Int)<M.length
   case neg =>
    have hjn:j=L.length:=by omega
    subst hjn;rw[take_length] at hT CF
    apply IY (.exit 0)
    ·simp only[ZG,seval,Fi,hI,Ij];rfl
    ·exact⟨rfl,k',M,by simp only[E8,seval,SU,hI],⟨fun y h h1 h2=>by simp only[E8,seval];exact hF.1 y h h1 h2,fun y=>by simp only[E8,seval];exact hF.2 y⟩,hM,hT,CF⟩
   have hjL:j<L.length:=by omega
   have q0:(0:Int)<=j:=by omega
   have q1:(0:Int)<=k':=by omega
   have q2:(k':Int)<M.length:=by omega
   have q3:(k':Int).toNat<M.length:=by omega
   have hwj:=wk (k:=j) (by omega)
   have hwk:=wk (k:=k') (by omega)
   have hx:=J3 (z:=dO) hD
   have hxe:=Bi (z:=dO) hjL
   obtain⟨x,hxx⟩:∃x,L[j]=x:=⟨_,rfl⟩
   rw[hxe,hxx] at hx;have hxm:x∈L:=by rw[<- hxx];exact getElem_mem _
   have kc:=zO x hxm
   have Z0:sK prog 74 (some (.row 74 238 M.length (aH M))) ((j:Int).toNat * 238)=eZ prog 74 (aU x) 0:=by rw[yC (k:=238) q0 Ij RZ (by decide) (by decide),hx]
   have JG:=JV (q:=fun x=>!p x) hjL
   rw[hxx] at JG;have q4:(k':Int).toNat * 238+238<=M.length * 238:=by omega
   have aBA:∀oC:St,K oC->K (St.jG oC s g (some (.row 74 238 M.length (aH (M.set k' x))))):=fun oC=>hK.row oC _ _ ⟨M.set k' x,by rw[length_set],by rw[length_set];exact hM,rfl⟩
   by_cases XR:p x=true
   ·rw[XR] at kc;simp only[XR,Bool.not_true,Bool.false_eq_true,if_false,append_nil] at JG;apply Dr (L.length-(j+1))
    ·simp only[ZG,seval,Fi,hI,SU,l5,l6,Ij,q0,Z0,kc,hwj,s7,s7'];rfl
    ·exact⟨j+1,k',M,by simp only[E8,seval,hI,SU,l5,l6,s7,s7'],⟨fun y h h1 h2=>by
      have n7:(y=7/\h=st.aQ 7)=False:=eq_false (by rintro⟨rfl,rfl⟩;have:=hF.2 7;omega)
      have ng:(y=s/\h=g)=False:=eq_false h2
      simp only[E8,seval,n7,ng,if_false];exact hF.1 y h h1 h2,fun y=>by
      have:=hF.2 y
      simp only[E8,seval];split<;>(try subst_vars)<;>omega⟩,hM,by rw[JG];exact hT,by rw[JG];exact CF,zS hD,by omega,by omega,rfl⟩
   ·have hp2:p x=false:=by simpa using XR
    rw[hp2] at kc;simp only[hp2,Bool.not_false,if_true] at JG;apply Dr (L.length-(j+1))
    ·simp only[ZG,seval,Fi,hI,SU,l5,l6,Ij,q0,q1,q2,q3,q4,Z0,kc,hwj,hwk,s7,s7'];rfl
    ·exact⟨j+1,k'+1,M.set k' x,by simp only[E8,seval,hI,SU,l5,l6,s7,s7',aBA,length_set,Int.toNat_natCast],⟨fun y h h1 h2=>by
      have n7:(y=7/\h=st.aQ 7)=False:=eq_false (by rintro⟨rfl,rfl⟩;have:=hF.2 7;omega)
      have ng:(y=s/\h=g)=False:=eq_false h2
      simp only[E8,seval,n7,ng,if_false];exact hF.1 y h h1 h2,fun y=>by
      have:=hF.2 y
      simp only[E8,seval];split<;>(try subst_vars)<;>omega⟩,by rw[length_set];exact hM,by rw[SS (by omega),hT,JG],by rw[JG,length_append,<- CF];rfl,by rw[set_drop (by omega)];exact zS hD,by omega,by omega,rfl⟩
  case start =>
   have ff:=CE (p:=p) hk (by have:=hp;rwa [Bi hk] at this) (fun j h1 h2=>by have:=hj j h1;rwa [Bi h2] at this)
   exact⟨k+1,k,L,by simp only[E8,seval,bS,aT,SU,l5,l6,hKb,rC,hh],⟨fun y h h1 h2=>by simp only[E8,seval,aT],fun y=>by simp only[E8,seval,aX];exact Nat.le_refl _⟩,rfl,ff.symm,by rw[ff,length_take];omega,rfl,by omega,by omega,rfl⟩
  case rest =>
   rintro e st ⟨rfl,k',M,hI,hF,hM,hT,CF⟩
   have Cn:k'<M.length:=by omega
   have sv:∀(st:St) (lo:Operand),st.heap s g=some (.row 74 238 M.length (aH M))->st.ev lo=.v (.int .i64 k')->cZ prog st 45 (.own s g) (some lo) none=some (.vw s g (k' * 238) (M.length-k')):=fun st lo hh he=>by
    have h1:¬((k':Int)=M.length/\¬((k':Int)=0/\0<M.length)):=by omega
    have h2:(0:Int)<=k'/\(k':Int)<=M.length:=by omega
    have h3:((M.length:Int)-(k':Int)).toNat=M.length-k':=by omega
    simp only[cZ,nF,hh,he,if_neg h1,h2,h3,Int.le_refl,and_self,if_true,Int.toNat_natCast]
   obtain⟨Z,cl,hZ,hZl⟩:∃Z,(∀st:St,st.heap s g=some (.row 74 238 M.length (aH M))->sQ prog st 45 (.vw s g (k' * 238) (M.length-k'))=some (some (s,g,.row 74 238 M.length (aH (M.take k')++Z))))/\(∀c∈Z,Flat c)/\Z.length=(M.length-k') * 238:=by
    refine⟨(List.range (M.length-k')).flatMap fun _=>Jz.map AV.v,fun st hh=>?_,fun c hc=>?_, ?_⟩
    ·have hc:k' * 238+(M.length-k') * 238<=(aH M).length:=by rw[pO];omega
     simp only[sQ,nF,aBC,hh];rw[if_pos ⟨trivial,trivial,hc⟩];have hd:(aH M).drop (k' * 238+(M.length-k') * 238)=[]:=drop_of_length_le (by rw[pO];omega)
     rw[hd,append_nil];congr 5
     exact congrArg (· ++ _) (xI (c:=aU) (sz:=238) bO M k')
    ·obtain⟨_,_,hc⟩:=mem_flatMap.1 hc
     obtain⟨x,_,rfl⟩:=mem_map.1 hc
     exact .v x
    ·have hv:(Jz.map AV.v).length=238:=by kernel_rfl
     generalize M.length-k'=m
     induction m with
     | zero=>rfl
     | succ m ih=>rw[range_succ,flatMap_append,length_append,ih];simp only[flatMap_cons,flatMap_nil,append_nil,hv];omega
   have sv2:∀(st:St) (hi:Operand),st.heap s g=some (.row 74 238 M.length (aH (M.take k')++Z))->st.ev hi=.v (.int .i64 k')->cZ prog st 45 (.own s g) none (some hi)=some (.vw s g 0 k'):=fun st hi hh he=>by
    have h1:¬((0:Int)=k'/\¬((0:Int)=0/\0<M.length)):=by omega
    have h2:(0:Int)<=k'/\(k':Int)<=M.length:=by omega
    simp only[cZ,nF,hh,he,if_neg h1,h2,Int.le_refl,and_self,if_true];simp
    intro h3 h4;rw[h4] at Cn;simp at Cn
   simp only[ZG,seval,Fi,hI,sv,cl,sv2,SX];refine⟨_,yB (P:=prog) (fn:=Tryz.f126) (r:=.tmp 4) (x:=.vw s g 0 k') (.inl rfl) rfl ?h1,by rw[CF],⟨fun y h h1 h2=>?h2,fun y=>?h3⟩,Z,hZ, ?h4, ?h5⟩
   case h1=>rw[rV];simp only[bY,E8,seval]
   case h2 =>
    have ng:(y=s/\h=g)=False:=eq_false h2
    simp only[E8,seval,ng,if_false];exact hF.1 y h h1 h2
   case h3=>simp only[E8,seval];exact hF.2 y
   case h4=>rw[length_append,pO,hZl,<- CF,hM,<- Nat.add_mul];congr 1;omega
   case h5=>simp only[E8,seval,hT,hM]
def SY {st:St} {s g e sz n k:Nat} {cs Z:List AV} (h:st.heap s g=some (.row e sz n (cs++Z))) (hc:cs.length=k * sz) (hn:(cs++Z).length=n * sz) (hz:∀c∈cs,Flat c) (hZ:∀c∈Z,Flat c) (hsz:0<sz):cN st (.vw s g 0 k)=some (.sl k cs):=by
 have hnf:¬Flat (.vw s g 0 k):=by intro h;cases h
 have hf:(∀c∈cs++Z,Flat c)/\0+k * sz<=(cs++Z).length:=⟨fun c hc=>(mem_append.1 hc).elim (hz c) (hZ c),by rw[length_append];omega⟩
 unfold cN;rw[if_neg hnf];simp only[h];rw[if_pos hf,drop_zero,<- hc,take_left]
def aIF (L:List Table) (hn:(L.length:Int)<1000000) (hFl:∀y∈L,Flat y.iF) (J:dL) (s g a b:Nat) (h7:s≠7) (ha:a≠7) (M7:¬(a=s/\b=g)):∃(X:AV) (G:St->St),(X.cells=[X]/\X.jH=true)/\∀st:St,st.heap a b=some (.cells (bG J))->st.heap s g=some (.row 118 34 L.length (aN L))->g<st.aQ s ->
 qH prog 123 [.own s g,.sH 124 [.ptr a b 0]] st=some (X,G st)/\Cc s g st (G st)/\∃R,(G st).heap s g=some R/\∀oC:St,oC.heap s g=some R->cN oC X=some (ov aN (some (L.filter fun x=>!(fun x=>decide (x.ck.aE<J.aE)) x))):=by
 obtain⟨p,hp⟩:∃p:Table->Bool,p=fun x=>decide (x.ck.aE<J.aE):=⟨_,rfl⟩
 have a7:(a=7)=False:=eq_false ha
 have aIG:(a=s/\b=g)=False:=eq_false M7
 have key:∀st:St,∃st',st.heap a b=some (.cells (bG J))->st.heap s g=some (.row 118 34 L.length (aN L))->g<st.aQ s ->
  (if L.filter (fun x=>!p x)=L then qH prog 123 [.own s g,.sH 124 [.ptr a b 0]] st=some (.own s g,st')/\Cc s g st st'/\st'.heap s g=some (.row 118 34 L.length (aN L)) else
   qH prog 123 [.own s g,.sH 124 [.ptr a b 0]] st=some (.vw s g 0 (L.filter (fun x=>!p x)).length,st')/\Cc s g st st'/\∃Z,(∀c∈Z,Flat c)/\((aN (L.filter (fun x=>!p x)))++Z).length=L.length * 34/\st'.heap s g=some (.row 118 34 L.length (aN (L.filter (fun x=>!p x))++Z))):=by
  intro st;by_cases hy:st.heap a b=some (.cells (bG J))/\st.heap s g=some (.row 118 34 L.length (aN L))/\g<st.aQ s
  case neg=>exact⟨st,fun h1 h2 h3=>absurd ⟨h1,h2,h3⟩ hy⟩
  have eV:∀(oC:St),Wx oC (some (.cells (bG J))) 0=some (.ip (bG J) 0):=fun oC=>tK oC (bR J) 0
  have fI:Flat (.ip (bG J) 0):=.ip _ _ (bR J)
  have kk:KOk (fun oC=>oC.heap a b=some (.cells (bG J))) s g 118 34 (fun n C=>∃M:List Table,n=M.length/\M.length=L.length/\C=aN M/\(∀y∈M,Flat y.iF)) :=
   ⟨fun oC d v=>by simp only[yG],fun oC x=>by simp only[yH,a7,false_and,if_false],fun oC h x=>by simp only[qO,a7,false_and,if_false],fun x oC=>by simp only[aT],fun oC n C _ h=>by
    show (St.jG oC s g _).heap a b=_
    simp only[qO,aIG,if_false];exact h⟩
  obtain⟨st',h⟩:=aIB L hn hFl p 124 s g a b h7 (fun oC=>oC.heap a b=some (.cells (bG J))) kk
   (fun x hx oC d hk=>by
    have hk:oC.heap a b=some (.cells (bG J)):=hk
    rw[jY,singleton_append,map_cons,map_cons,map_nil,eC ((gZ _).2 (hFl x hx)),SZ hk (bR J),bK,bK,fY];have h:=aMX x J
    rw[hp];exact Uc h)
   (fun oC d hk hh=>by
    have hk:oC.heap a b=some (.cells (bG J)):=hk
    rw[jY,map_cons,map_cons,map_nil,CG hh (kD _ hFl),oV,hk,tK oC (bR J) 0,Option.map_some,bK,bK,fY];have h:=aG6 (some L) hn 124 [.ip (bG J) 0] p (fun x hx st d=>by rw[hp];exact bE (bB ((gZ _).2 (hFl x hx)) fI) (aMX x J) (.v _))
    exact Wy h)
   st hy.1 hy.2.2 hy.2.1
  exact⟨st',fun _ _ _=>h⟩
 rw[<- hp];by_cases hf:L.filter (fun x=>!p x)=L
 ·refine⟨.own s g,fun st=>Classical.choose (key st),⟨rfl,rfl⟩,fun st h1 h2 h3=>?_⟩
  have h:=Classical.choose_spec (key st) h1 h2 h3
  rw[if_pos hf] at h;refine⟨h.1,h.2.1,_,h.2.2,fun oC h=>?_⟩
  rw[hf];exact Go.Ab.kI h (kD _ hFl)
 ·refine⟨.vw s g 0 (L.filter (fun x=>!p x)).length,fun st=>Classical.choose (key st),⟨rfl,rfl⟩,fun st h1 h2 h3=>?_⟩
  have h:=Classical.choose_spec (key st) h1 h2 h3
  rw[if_neg hf] at h;obtain⟨e1,e2,Z,hZ,hl,e3⟩:=h
  exact⟨e1,e2,_,e3,fun oC h=>SY h (yF _) hl (kD _ (fun y hy=>hFl y (mem_filter.1 hy).1)) hZ (by decide)⟩
def aIH (L:List Block) (hn:(L.length:Int)<1000000) (J:Int) (s g a b:Nat) (h7:s≠7) (ha:a≠7) (M7:¬(a=s/\b=g)):∃(X:AV) (G:St->St),(X.cells=[X]/\X.jH=true)/\∀st:St,st.heap a b=some (.cells (lV J))->st.heap s g=some (.row 74 238 L.length (aH L))->g<st.aQ s ->
 qH prog 126 [.own s g,.sH 127 [.ptr a b 0]] st=some (X,G st)/\Cc s g st (G st)/\∃R,(G st).heap s g=some R/\∀oC:St,oC.heap s g=some R->cN oC X=some (ov aH (some (L.filter fun x=>!(fun x=>decide (x.slot<=J)) x))):=by
 obtain⟨p,hp⟩:∃p:Block->Bool,p=fun x=>decide (x.slot<=J):=⟨_,rfl⟩
 have a7:(a=7)=False:=eq_false ha
 have aIG:(a=s/\b=g)=False:=eq_false M7
 have key:∀st:St,∃st',st.heap a b=some (.cells (lV J))->st.heap s g=some (.row 74 238 L.length (aH L))->g<st.aQ s ->
  (if L.filter (fun x=>!p x)=L then qH prog 126 [.own s g,.sH 127 [.ptr a b 0]] st=some (.own s g,st')/\Cc s g st st'/\st'.heap s g=some (.row 74 238 L.length (aH L)) else
   qH prog 126 [.own s g,.sH 127 [.ptr a b 0]] st=some (.vw s g 0 (L.filter (fun x=>!p x)).length,st')/\Cc s g st st'/\∃Z,(∀c∈Z,Flat c)/\((aH (L.filter (fun x=>!p x)))++Z).length=L.length * 238/\st'.heap s g=some (.row 74 238 L.length (aH (L.filter (fun x=>!p x))++Z))):=by
  intro st;by_cases hy:st.heap a b=some (.cells (lV J))/\st.heap s g=some (.row 74 238 L.length (aH L))/\g<st.aQ s
  case neg=>exact⟨st,fun h1 h2 h3=>absurd ⟨h1,h2,h3⟩ hy⟩
  have eV:∀(oC:St),Wx oC (some (.cells (lV J))) 0=some (.ip (lV J) 0):=fun oC=>tK oC (eD J) 0
  have fI:Flat (.ip (lV J) 0):=.ip _ _ (eD J)
  have kk:KOk (fun oC=>oC.heap a b=some (.cells (lV J))) s g 74 238 (fun n C=>∃M:List Block,n=M.length/\M.length=L.length/\C=aH M) :=
   ⟨fun oC d v=>by simp only[yG],fun oC x=>by simp only[yH,a7,false_and,if_false],fun oC h x=>by simp only[qO,a7,false_and,if_false],fun x oC=>by simp only[aT],fun oC n C _ h=>by
    show (St.jG oC s g _).heap a b=_
    simp only[qO,aIG,if_false];exact h⟩
  obtain⟨st',h⟩:=aIE L hn p 127 s g a b h7 (fun oC=>oC.heap a b=some (.cells (lV J))) kk
   (fun x hx oC d hk=>by
    have hk:oC.heap a b=some (.cells (lV J)):=hk
    rw[jY,singleton_append,map_cons,map_cons,map_nil,eC (tW x),SZ hk (eD J),bK,bK,fY];have h:=aMY x J
    rw[hp];exact Uc h)
   (fun oC d hk hh=>by
    have hk:oC.heap a b=some (.cells (lV J)):=hk
    rw[jY,map_cons,map_cons,map_nil,CG hh (lE _),oV,hk,tK oC (eD J) 0,Option.map_some,bK,bK,fY];have h:=aG7 (some L) hn 127 [.ip (lV J) 0] p (fun x hx st d=>by rw[hp];exact bE (bB (tW x) fI) (aMY x J) (.v _))
    exact Wy h)
   st hy.1 hy.2.2 hy.2.1
  exact⟨st',fun _ _ _=>h⟩
 rw[<- hp];by_cases hf:L.filter (fun x=>!p x)=L
 ·refine⟨.own s g,fun st=>Classical.choose (key st),⟨rfl,rfl⟩,fun st h1 h2 h3=>?_⟩
  have h:=Classical.choose_spec (key st) h1 h2 h3
  rw[if_pos hf] at h;refine⟨h.1,h.2.1,_,h.2.2,fun oC h=>?_⟩
  rw[hf];exact Go.Ab.kI h (lE _)
 ·refine⟨.vw s g 0 (L.filter (fun x=>!p x)).length,fun st=>Classical.choose (key st),⟨rfl,rfl⟩,fun st h1 h2 h3=>?_⟩
  have h:=Classical.choose_spec (key st) h1 h2 h3
  rw[if_neg hf] at h;obtain⟨e1,e2,Z,hZ,hl,e3⟩:=h
  exact⟨e1,e2,_,e3,fun oC h=>SY h (pO _) hl (lE _) hZ (by decide)⟩
def aEP (J:Int) (a b:Nat):∃G:St->St,∀st:St,st.heap a b=some (.cells (lV J)) ->
 qH prog 126 [.v (.slice none 0 0),.sH 127 [.ptr a b 0]] st=some (.v (.slice none 0 0),G st)/\Gs st (G st):=by
 have key:∀st:St,∃st',st.heap a b=some (.cells (lV J))->qH prog 126 [.v (.slice none 0 0),.sH 127 [.ptr a b 0]] st=some (.v (.slice none 0 0),st')/\Gs st st':=by
  intro st;by_cases hk:st.heap a b=some (.cells (lV J))
  case neg=>exact⟨st,fun h=>absurd h hk⟩
  have fI:Flat (.ip (lV J) 0):=.ip _ _ (eD J)
  have F9:∀(oC:St) (d:Option Nat),oC.heap a b=some (.cells (lV J))->bH (aG prog) 171 [.v (.slice none 0 0),.sH 127 [.ptr a b 0]] oC d=some { dst:=d,val:=.v (.int .i64 (-1))}:=fun oC d hk=>by
   rw[jY,map_cons,map_cons,map_nil,Oq,oV,hk,tK oC (eD J) 0,Option.map_some,bK,bK,fY];have h:=aG7 none (by decide) 127 [.ip (lV J) 0] (fun x=>decide (x.slot<=J)) (fun x hx st d=>by simp[ol] at hx)
   exact Wy h
  rw[Cx prog func126 rfl (by kernel_rfl)]
  simp only[ZG,seval,Fi,bS,aT,hk,F9];exact⟨_,fun _=>⟨yB (P:=prog) (fn:=Tryz.f126) (r:=.tmp 4) (x:=.v (.slice none 0 0)) (.inl rfl) rfl (by rw[rV];simp only[bY,E8,seval]),fun y h h1=>by simp only[E8,seval,aT],fun y=>by simp only[E8,seval,aX];exact Nat.le_refl _⟩⟩
 exact⟨fun st=>Classical.choose (key st),fun st h=>Classical.choose_spec (key st) h⟩
def CH {P:Program} {g:Nat} {args:List AV} {st:St} {β:Type} {k:AV × St->Option β} {R:β->Prop} (X:AV) (Pre:St->Prop) (Q:St->St->Prop) (h:∀st,Pre st->∃st',qH P g args st=some (X,st')/\Q st st') (hp:Pre st)
 (rest:∀st',Q st st'->∃r,k (X,st')=some r/\R r):∃r,cT (qH P g args st) k=some r/\R r:=by
 obtain⟨st',h1,h2⟩:=h st hp
 rw[h1];exact rest st' h2
def CI:aB 0 4 (some 3)=[]/\aB 1 4 (some 13)=[]/\aB 2 13 (some 16)=[]/\aB 3 2 (some 23)=[]/\aB 4 2 (some 25)=[]/\aB 5 8 (some 26)=[(1,4)]/\aB 7 5 (some 37)=[]/\aB 8 2 (some 42)=[]/\aB 9 14 (some 44)=[]/\aB 10 6 (some 56)=[]/\aB 11 3 (some 62)=[]/\aB 12 12 (some 65)=[]/\aB 14 2 (some 80)=[]:=⟨rfl,rfl,rfl,rfl,rfl,rfl,rfl,rfl,rfl,rfl,rfl,rfl,rfl⟩
def TA:aB 6 6 (some 32)=[]/\aB 13 8 (some 73)=[]:=⟨rfl,rfl⟩
def l7 {st:St} {s:aL} {v:SV} (hs:SD s v) (hh:∀j,j<nE v->st.heap 14 j=(My v)[j]?) {f:kF} {bo:cC} {O N T O' N' T':AV} (hO:cN st O=some O') (hN:cN st N=some N') (hT:cN st T=some T') :
 Yd st (aA { Rv s v 14 0 with aI:=f,dV:=bo,tables:=T,tree:=⟨N⟩,cM:={ (Rv s v 14 0).cM with bN:=O }})=some (aA { s with aI:=f,dV:=bo,tables:=T',tree:=⟨N'⟩,cM:={ s.cM with bN:=O' }}):=by
 have cB:∀x,v.B=some x->0<nB v:=fun x h=>by simp[nB,h,rl]
 have cL:∀x,v.L=some x->nB v<nL v:=fun x h=>by simp[nL,h,rl]
 have cQ:∀x,v.Q=some x->nL v<nQ v:=fun x h=>by simp[nQ,h,rl]
 have cE:∀x,v.E=some x->nQ v<nE v:=fun x h=>by simp[nE,h,rl]
 have l1:nB v<=nL v:=by unfold nL;omega
 have l2:nL v<=nQ v:=by unfold nQ;omega
 have l3:nQ v<=nE v:=by unfold nE;omega
 rw[gH];simp only[Rv,XQ,Nat.zero_add];rw[mT (e:=23) (sz:=1) (c:=bF) (fun x h=>by have:=cB x h;rw[hh _ (by omega),aMR v x h]) (fun x _=>iG x),cF,
  mT (e:=100) (sz:=34) (c:=dE) (fun x h=>by have:=cL x h;rw[hh _ (by omega),aMS v x h]) (fun x _=>nN x),cF,
  mT (e:=3) (sz:=1) (c:=aM) (fun x h=>by have:=cQ x h;rw[hh _ (by omega),aMT v x h]) (fun x _=>gG x),cF,
  mT (e:=87) (sz:=67) (c:=dT) (fun x h=>by have:=cE x h;rw[hh _ (by omega),aMU v x h]) (fun x h=>tO x fun y m=>(hs.eV y (by rw[h];exact m)).fl),cF,hO,cF,hN,cF,hT,cF,<- hs.iF,<- hs.dS,<- hs.gA,<- hs.early]
def Vb (s:aL) (v:SV) (c1 c2:dL):aL :=
 if iP s v (sU s c1) (oB s c2) then s else
 if oB s c2=s.aI.fin then { s with aI:=⟨sU s c1,oB s c2⟩,tables:=ov aN (v.T.map fun l=>tY l (sU s c1).aE)} else
 { s with aI:=⟨sU s c1,oB s c2⟩,tables:=ov aN (v.T.map fun l=>tY l (sU s c1).aE),
          tree:=⟨.sl (gN v.ns (aC v.ns (oB s c2).root) v.ns.length).1.length (bV (gN v.ns (aC v.ns (oB s c2).root) v.ns.length).1)⟩,
          dV:=if aC (gN v.ns (aC v.ns (oB s c2).root) v.ns.length).1 s.dV<0 then cO else s.dV,
          cM:={ s.cM with bN:=ov aH (v.O.map fun l=>l.filter fun b=>decide ((sJ s (oB s c2).aE).1<b.slot))} }
def c60 {s:aL} {v:SV} (hs:SD s v) (hu:fK v.ns) (hr:(nd v.ns 0).up<0) (hp:1<=s.cFg.jS/\s.cFg.jS<=64) (hx:Rg s.now) (hj:Rg s.aI.eI.aE) (Xd:Rg s.aI.fin.aE) (gJ:NEv v) (hB:v.B≠some []) (hL:v.L≠some []) (ht:0<v.ns.length) (c1 c2:dL) (h1:Rg c1.aE) (h2:Rg c2.aE) :
 aG prog 60 [.agg (aA s),.agg (bG c1),.agg (bG c2)]=some (.agg (aA (Vb s v c1 c2))):=by
 have k109':=aRN hs gJ hB hL ht
 have Q5:=k58 hs hu hp hx hj Xd c1 c2 h1 h2
 have gO:nO v+1<=nS v:=by
  have:=(List.getElem?_eq_some_iff.1 (aIx v)).1
  unfold nS;omega
 have gE:nE v<=nO v:=by unfold nO;omega
 rw[cG func60 rfl rfl]
 unfold Vb;unfold Ri at Q5
 by_cases hb:iP s v (sU s c1) (oB s c2)
 ·rw[if_pos hb] at Q5 ⊢
  simp only[ZG,seval,CI,k109',Q5,SR,NW,dR];refine eG rfl (by simp only[E8,seval]<;>rfl) (cs:=aA (Rv s v 14 0)) (by simp only[Z8,seval,NW]<;>rfl) ?_
  rw[bP,aIz hs (d:=14) (c:=0) (fun j hj=>by
   rw[Nat.zero_add];simp only[E8,seval,NW,true_and,Nat.zero_le,Nat.sub_zero,aBy])]
  rfl
 rw[if_neg hb] at Q5 ⊢
 have pJ:=(J1 hp hx (by unfold sU;split<;>assumption) (by unfold oB;split<;>assumption)).2 hb
 obtain⟨J,eJ⟩:∃J,sU s c1=J:=⟨_,rfl⟩
 obtain⟨F,eF⟩:∃F,oB s c2=F:=⟨_,rfl⟩
 have rF:Rg F.aE:=by rw[<- eF];unfold oB;split<;>assumption
 rw[eJ,eF] at Q5 pJ ⊢
 obtain⟨⟨f1,f2,f3,f4⟩,_,_,_,_,hT0⟩:=pJ
 cases hvT:v.T with
 | none=>rw[hvT] at hT0;exact absurd hT0 (by show ¬(0:Int)<=-1;omega)
 | some LT =>
 have hB':=fun y hy=>(hs.tB y hy).fl
 rw[hvT,Ry] at hB'
 have nT:=hs.nT
 rw[hvT,Ry] at nT;have lT:nO v+1<nS v:=(List.getElem?_eq_some_iff.1 (aIy v LT hvT)).1
 obtain⟨X,G,⟨hXc,hXs⟩,hG⟩:=aIF LT nT hB' J 14 (nO v+1) 8 0 (by decide) (by decide) (by rintro⟨h,_⟩;omega)
 have eX:(LT.filter fun x=>!(fun x:Table=>decide (x.ck.aE<J.aE)) x)=tY LT J.aE:=by
  unfold tY;congr 1
  funext x
  simp only[<- decide_not,Int.not_lt]
 simp only[eX] at hG;have hT1:(Rv s v 14 0).tables=.own 14 (nO v+1):=by simp only[Rv,XQ,hvT,MC,Nat.zero_add]
 refine iA ?_
 simp only[ZG,seval,CI,k109',Q5,SR,NW,dR,hT1];refine CH X (fun st=>st.heap 8 0=some (.cells (bG J))/\st.heap 14 (nO v+1)=some (.row 118 34 LT.length (aN LT))/\nO v+1<st.aQ 14) (fun st st'=>Cc 14 (nO v+1) st st'/\∃R,st'.heap 14 (nO v+1)=some R/\∀oC:St,oC.heap 14 (nO v+1)=some R->cN oC X=some (ov aN (some (tY LT J.aE)))) (fun st h=>⟨_,hG st h.1 h.2.1 h.2.2⟩) ⟨?p1, ?p2, ?p3⟩ ?rest
 case p1=>simp only[E8,seval,NW]<;>rfl
 case p2 =>
  simp only[E8,seval,NW,Nat.zero_le,Nat.sub_zero,aBy];exact aIy v LT hvT
 case p3=>simp only[E8,seval,NW];exact lT
 case rest =>
  rintro st' ⟨hF,R,hR,hRX⟩
  have e3:st'.heap 3 0=some (.cells (aA s)):=(hF.1 3 0 (by simp only[E8,seval,NW]<;>omega) (by omega)).trans (by simp only[E8,seval,NW]<;>rfl)
  have e6:st'.heap 6 0=some (.cells (aA gC)):=(hF.1 6 0 (by simp only[E8,seval,NW]<;>omega) (by omega)).trans (by simp only[E8,seval,NW]<;>rfl)
  have e7:st'.heap 7 0=some (.cells (aA { Rv s v 14 0 with aI:=⟨J,F⟩,tables:=.own 14 (nO v+1)})):=(hF.1 7 0 (by simp only[E8,seval,NW]<;>omega) (by omega)).trans (by simp only[E8,seval,NW]<;>rfl)
  have e9:st'.heap 9 0=some (.cells (bG F)):=(hF.1 9 0 (by simp only[E8,seval,NW]<;>omega) (by omega)).trans (by simp only[E8,seval,NW]<;>rfl)
  have er:∀j,j<nS v->j≠nO v+1->st'.heap 14 j=(My v)[j]?:=fun j hj gJ=>(hF.1 14 j (by simp only[E8,seval,NW];exact hj) (by omega)).trans (by simp only[E8,seval,NW,Nat.zero_le,Nat.sub_zero,aBy])
  have g6:0<st'.aQ 6:=Nat.lt_of_lt_of_le (by simp only[E8,seval,NW]<;>omega) (hF.2 6)
  have g7:0<st'.aQ 7:=Nat.lt_of_lt_of_le (by simp only[E8,seval,NW]<;>omega) (hF.2 7)
  have g14:nS v<=st'.aQ 14:=Nat.le_trans (by simp only[E8,seval,NW]<;>exact Nat.le_refl _) (hF.2 14)
  have xO:∀oC:St,(∀j,j<nS v->j≠nO v+1->oC.heap 14 j=(My v)[j]?)->cN oC (rv 14 (0+nE v) v.O)=some (ov aH v.O):=fun oC h=>by
   rw[Nat.zero_add];exact mT (e:=74) (sz:=238) (c:=aH) (fun x hx=>by have:nE v<nO v:=(by simp[nO,hx,rl]);rw[h _ (by omega) (by omega),aIw v x hx]) (fun x _=>lE x)
  have xN:∀oC:St,(∀j,j<nS v->j≠nO v+1->oC.heap 14 j=(My v)[j]?)->cN oC (.own 14 (0+nO v))=some (ov bV (some v.ns)):=fun oC h=>by
   rw[Nat.zero_add];exact mT (L:=some v.ns) (e:=76) (sz:=240) (c:=bV) (fun x hx=>by cases hx;rw[h _ (by omega) (by omega),aIx v]) (fun x _=>iU x)
  have hn:ov bV (some v.ns)=s.tree.nodes:=by rw[hs.tree];rfl
  by_cases hFF:F=s.aI.fin
  ·have hd:decide (F=s.aI.fin)=true:=decide_eq_true hFF
   simp only[ZG,seval,CI,TA,NW,bS,aT,aX,e3,e6,e7,e9,hXc,hXs,length_singleton,hd];refine⟨.agg (aA { s with aI:=⟨J,F⟩,tables:=ov aN (some (tY LT J.aE))}),eG rfl (by simp only[E8,seval,NW,bS]<;>rfl) (cs:=aA { Rv s v 14 0 with aI:=⟨J,F⟩,tables:=X }) (by simp only[Z8,seval,NW,bS,aT,aX,e3,e6,e7,hXc]<;>rfl) ?ex, ?eq⟩
   case ex =>
    rw[bP];rw[show Yd _ (aA { Rv s v 14 0 with aI:=⟨J,F⟩,tables:=X })=some _ from l7 hs (f:=⟨J,F⟩) (bo:=s.dV) (O:=rv 14 (0+nE v) v.O) (N:=.own 14 (0+nO v)) (T:=X) (fun j hj=>by simp only[E8,seval,NW,aT];exact er j (by omega) (by omega)) (xO _ (fun j hj gJ=>by simp only[E8,seval,NW,aT];exact er j hj gJ)) (xN _ (fun j hj gJ=>by simp only[E8,seval,NW,aT];exact er j hj gJ)) (hRX _ (by simp only[E8,seval,NW,aT];exact hR))]
    rw[hn,<- hs.bN];rfl
   case eq=>rw[if_pos hFF]
  have hd:decide (F=s.aI.fin)=false:=decide_eq_false hFF
  have fr:=cS v.ns F.root
  have kP:=aPl v.ns hu hr hs.nn (aC v.ns F.root) ⟨f1,fr.2⟩
  unfold M6 at kP;obtain⟨pn,hpn⟩:∃pn,(gN v.ns (aC v.ns F.root) v.ns.length).1=pn:=⟨_,rfl⟩
  have lpn:(pn.length:Int)<1000000:=by rw[<- hpn];have:=Um (ns:=v.ns) (aC v.ns F.root);have:=hs.nn;omega
  rw[hpn] at kP ⊢;have ZY:∀(st:St) (d:Option Nat),bH (aG prog) 95 [.v (.int .u64 F.aE),.v (.int .u64 s.cFg.jS)] st d=some { dst:=d,val:=.eH [.v (.int .u64 (sJ s F.aE).1),.v (.int .i64 (sJ s F.aE).2)]}:=fun st d=>k95 rF st d
  have JW:(Rv s v 14 0).dV=s.dV:=rfl
  obtain⟨bo,hb⟩:∃bo,(if aC pn s.dV<0 then cO else s.dV)=bo:=⟨_,rfl⟩
  rw[hb];obtain⟨z,hz⟩:∃z,(sJ s F.aE).1=z:=⟨_,rfl⟩
  rw[hz] at ZY ⊢
  cases hvO:v.O with
  | none =>
    have hO1:(Rv s v 14 0).cM.bN=.v (.slice none 0 0):=by simp only[Rv,XQ,hvO,aEL]
    obtain⟨G2,Pa⟩:=aEP z 11 (st'.aQ 11)
    by_cases g:aC pn s.dV<0<;>simp only[g,if_true,if_false] at hb<;>(try rw[hb] at g)
    all_goals
     simp only[ZG,seval,CI,TA,NW,bS,aT,aX,e3,e6,e7,e9,hXc,hXs,length_singleton,hd,hs.tree,k89 _ _ hs.nn,k89 _ _ lpn,kP,dR,JW,g,hb,ZY,hO1];refine CH (.v (.slice none 0 0)) (fun st=>st.heap 11 (st'.aQ 11)=some (.cells (lV z))) (fun st oC=>Gs st oC) (fun st h=>⟨_,Pa st h⟩) ?p1 ?rest
     case p1=>simp only[E8,seval,NW,bS,aT,aX]<;>rfl
     case rest =>
      intro oC hF2;have a6:oC.heap 6 0=some (.cells (aA gC)):=(hF2.1 6 0 (by simp only[E8,seval,NW,bS,aT,aX];exact g6)).trans (by simp only[E8,seval,NW,bS,aT,aX,e6]<;>rfl)
      have a7:oC.heap 7 0=some (.cells (aA { Rv s v 14 0 with aI:=⟨J,F⟩,tables:=X,tree:=⟨.sl pn.length (bV pn)⟩,dV:=bo })):=(hF2.1 7 0 (by simp only[E8,seval,NW,bS,aT,aX];exact g7)).trans (by simp only[E8,seval,NW,bS,aT,aX,e7]<;>rfl)
      have ar:∀j,j<nE v->oC.heap 14 j=(My v)[j]?:=fun j hj=>(hF2.1 14 j (by simp only[E8,seval,NW,bS,aT,aX];omega)).trans (by simp only[E8,seval,NW,bS,aT,aX];exact er j (by omega) (by omega))
      have aR:oC.heap 14 (nO v+1)=some R:=(hF2.1 14 (nO v+1) (by simp only[E8,seval,NW,bS,aT,aX];omega)).trans (by simp only[E8,seval,NW,bS,aT,aX];exact hR)
      simp only[ZG,seval,CI,TA,NW,bS,aT,aX,a6,a7];refine⟨.agg (aA { s with aI:=⟨J,F⟩,tables:=ov aN (some (tY LT J.aE)),tree:=⟨.sl pn.length (bV pn)⟩,dV:=bo,cM:={ s.cM with bN:=ov aH none }}),eG rfl (by simp only[E8,seval,NW,bS,aT,aX]<;>rfl) (cs:=aA { Rv s v 14 0 with aI:=⟨J,F⟩,tables:=X,tree:=⟨.sl pn.length (bV pn)⟩,dV:=bo,cM:={ (Rv s v 14 0).cM with bN:=.v (.slice none 0 0)} }) (by simp only[Z8,seval,NW,bS,aT,aX,a6,a7]<;>rfl) ?ex, ?eq⟩
      case ex =>
       rw[bP];rw[show Yd _ (aA { Rv s v 14 0 with aI:=⟨J,F⟩,tables:=X,tree:=⟨.sl pn.length (bV pn)⟩,dV:=bo,cM:={ (Rv s v 14 0).cM with bN:=.v (.slice none 0 0)} })=some _ from l7 hs (f:=⟨J,F⟩) (bo:=bo) (O:=.v (.slice none 0 0)) (N:=.sl pn.length (bV pn)) (T:=X) (fun j hj=>by simp only[E8,seval,NW,aT];exact ar j hj) (cY (.v _)) (cY (.sl _ _ (iU pn))) (hRX _ (by simp only[E8,seval,NW,aT];exact aR))]
       rfl
      case eq=>rw[if_neg hFF]<;>rfl
  | some LO =>
    have hO1:(Rv s v 14 0).cM.bN=.own 14 (nE v):=by simp only[Rv,XQ,hvO,MC,Nat.zero_add]
    have nOb:=hs.nO
    rw[hvO,Ry] at nOb;have lO:nE v<nO v:=by simp[nO,hvO,rl]
    obtain⟨Y,G2,⟨hYc,hYs⟩,Pa⟩:=aIH LO nOb z 14 (nE v) 11 (st'.aQ 11) (by decide) (by decide) (by rintro⟨h,_⟩;omega)
    have eY:(LO.filter fun x=>!(fun x:Block=>decide (x.slot<=z)) x)=LO.filter fun b=>decide (z<b.slot):=by
     congr 1
     funext x
     simp only[<- decide_not,Int.not_le]
    simp only[eY] at Pa;by_cases g:aC pn s.dV<0<;>simp only[g,if_true,if_false] at hb<;>(try rw[hb] at g)
    all_goals
     simp only[ZG,seval,CI,TA,NW,bS,aT,aX,e3,e6,e7,e9,hXc,hXs,length_singleton,hd,hs.tree,k89 _ _ hs.nn,k89 _ _ lpn,kP,dR,JW,g,hb,ZY,hO1];refine CH Y (fun st=>st.heap 11 (st'.aQ 11)=some (.cells (lV z))/\st.heap 14 (nE v)=some (.row 74 238 LO.length (aH LO))/\nE v<st.aQ 14) (fun st oC=>Cc 14 (nE v) st oC/\∃R,oC.heap 14 (nE v)=some R/\∀st3:St,st3.heap 14 (nE v)=some R->cN st3 Y=some (ov aH (some (LO.filter fun b=>decide (z<b.slot))))) (fun st h=>⟨_,Pa st h.1 h.2.1 h.2.2⟩) ⟨?p1, ?p2, ?p3⟩ ?rest
     case p1=>simp only[E8,seval,NW,bS,aT,aX]<;>rfl
     case p2 =>
      simp only[E8,seval,NW,bS,aT,aX];rw[er _ (by omega) (by omega)]
      exact aIw v LO hvO
     case p3=>simp only[E8,seval,NW,bS,aT,aX];omega
     case rest =>
      rintro oC ⟨hF2,R2,hR2,hRY⟩
      have a6:oC.heap 6 0=some (.cells (aA gC)):=(hF2.1 6 0 (by simp only[E8,seval,NW,bS,aT,aX];exact g6) (by omega)).trans (by simp only[E8,seval,NW,bS,aT,aX,e6]<;>rfl)
      have a7:oC.heap 7 0=some (.cells (aA { Rv s v 14 0 with aI:=⟨J,F⟩,tables:=X,tree:=⟨.sl pn.length (bV pn)⟩,dV:=bo })):=(hF2.1 7 0 (by simp only[E8,seval,NW,bS,aT,aX];exact g7) (by omega)).trans (by simp only[E8,seval,NW,bS,aT,aX,e7]<;>rfl)
      have ar:∀j,j<nE v->oC.heap 14 j=(My v)[j]?:=fun j hj=>(hF2.1 14 j (by simp only[E8,seval,NW,bS,aT,aX];omega) (by omega)).trans (by simp only[E8,seval,NW,bS,aT,aX];exact er j (by omega) (by omega))
      have aR:oC.heap 14 (nO v+1)=some R:=(hF2.1 14 (nO v+1) (by simp only[E8,seval,NW,bS,aT,aX];omega) (by omega)).trans (by simp only[E8,seval,NW,bS,aT,aX];exact hR)
      simp only[ZG,seval,CI,TA,NW,bS,aT,aX,a6,a7,hYc,hYs,length_singleton];refine⟨.agg (aA { s with aI:=⟨J,F⟩,tables:=ov aN (some (tY LT J.aE)),tree:=⟨.sl pn.length (bV pn)⟩,dV:=bo,cM:={ s.cM with bN:=ov aH (some (LO.filter fun b=>decide (z<b.slot)))} }),eG rfl (by simp only[E8,seval,NW,bS,aT,aX]<;>rfl) (cs:=aA { Rv s v 14 0 with aI:=⟨J,F⟩,tables:=X,tree:=⟨.sl pn.length (bV pn)⟩,dV:=bo,cM:={ (Rv s v 14 0).cM with bN:=Y }}) (by simp only[Z8,seval,NW,bS,aT,aX,a6,a7,hYc]<;>rfl) ?ex, ?eq⟩
      case ex =>
       rw[bP];rw[show Yd _ (aA { Rv s v 14 0 with aI:=⟨J,F⟩,tables:=X,tree:=⟨.sl pn.length (bV pn)⟩,dV:=bo,cM:={ (Rv s v 14 0).cM with bN:=Y }})=some _ from l7 hs (f:=⟨J,F⟩) (bo:=bo) (O:=Y) (N:=.sl pn.length (bV pn)) (T:=X) (fun j hj=>by simp only[E8,seval,NW,aT];exact ar j hj) (hRY _ (by simp only[E8,seval,NW,aT];exact hR2)) (cY (.sl _ _ (iU pn))) (hRX _ (by simp only[E8,seval,NW,aT];exact aR))]
       rfl
      case eq=>rw[if_neg hFF]<;>rfl
end Go.Ab.Tryz
namespace Go.Ab.Tryz
open Classical Go.Proofs Go.Ab
end Go.Ab.Tryz
namespace Go.Ab.Tryz
open Classical Go.Proofs Go.Ab
def aM5 (i:Int) (i0:0<=i) (i1:i<1000000):aG prog 145 [.v (.slice none 0 0),.v (.int .i64 i)]=some (.v (.int .i64 (Ms [] i))):=by
 have e1:∃y,aG prog 145 [.sl 0 (aM []),.v (.int .i64 i)]=some y/\aG prog 145 [.v (.slice none 0 0),.v (.int .i64 i)]=some y:=by
  refine⟨.v (.int .i64 (i64.wrap ((BitVec.ofInt i64.bits i &&& BitVec.ofInt i64.bits 65535).toNat:Int))), ?_, ?_⟩
  ·rw[cL func145 rfl rfl];refine iA ?_
   simp only[Z8,seval,beI];exact⟨_,bT rfl,rfl⟩
  ·rw[cL func145 rfl rfl];refine iA ?_
   simp only[Z8,seval,beI];exact⟨_,bT rfl,rfl⟩
 obtain⟨y,h1,h2⟩:=e1
 have h3:=(Je [] (by decide) i i0 i1).1
 have h4:aG prog 145 [.sl 0 (aM []),.v (.int .i64 i)]=some (.v (.int .i64 (Ms [] i))):=h3
 rw[h1] at h4;rw[h2,h4]
def Ka (i:Int) (i0:0<=i) (i1:i<1000000):KC 145 [.v (.slice none 0 0),.v (.int .i64 i)] (.v (.int .i64 (Ms [] i))):=fun _ _=>bE (bB (.v _) (.v _)) (aM5 i i0 i1) (.v _)
def aM6:∃x,aG prog 101 [.v (.slice none 0 0)]=some x/\∃(c:Config) (b:List Int),x=.agg (bX c)/\Bb c b:=by
 have hc:=fun (i:Int) (h:0<=i/\i<1000000)=>(Je [] (by decide) i h.1 h.2).2.1
 have k0:=Ka 0 (by omega) (by omega)
 obtain⟨a0,b0⟩:=cU (n:=8) (hc 0 (by omega)) (by omega)
 obtain⟨x0,h0⟩:∃x,(Ms [] 0).tmod 8=x:=⟨_,rfl⟩
 rw[h0] at a0 b0;have k1:=Ka 1 (by omega) (by omega)
 obtain⟨a1,b1⟩:=cU (n:=4) (hc 1 (by omega)) (by omega)
 obtain⟨x1,h1⟩:∃x,(Ms [] 1).tmod 4=x:=⟨_,rfl⟩
 rw[h1] at a1 b1;have k2:=Ka 2 (by omega) (by omega)
 obtain⟨a2,b2⟩:=cU (n:=4) (hc 2 (by omega)) (by omega)
 obtain⟨x2,h2⟩:∃x,(Ms [] 2).tmod 4=x:=⟨_,rfl⟩
 rw[h2] at a2 b2;have k3:=Ka 3 (by omega) (by omega)
 obtain⟨a3,b3⟩:=cU (n:=4) (hc 3 (by omega)) (by omega)
 obtain⟨x3,h3⟩:∃x,(Ms [] 3).tmod 4=x:=⟨_,rfl⟩
 rw[h3] at a3 b3;have k4:=Ka 4 (by omega) (by omega)
 obtain⟨a4,b4⟩:=cU (n:=4) (hc 4 (by omega)) (by omega)
 obtain⟨x4,h4⟩:∃x,(Ms [] 4).tmod 4=x:=⟨_,rfl⟩
 rw[h4] at a4 b4;have k5:=Ka 5 (by omega) (by omega)
 obtain⟨a5,b5⟩:=cU (n:=5) (hc 5 (by omega)) (by omega)
 obtain⟨x5,h5⟩:∃x,(Ms [] 5).tmod 5=x:=⟨_,rfl⟩
 rw[h5] at a5 b5;have k6:=Ka 6 (by omega) (by omega)
 obtain⟨a6,b6⟩:=cU (n:=4) (hc 6 (by omega)) (by omega)
 obtain⟨x6,h6⟩:∃x,(Ms [] 6).tmod 4=x:=⟨_,rfl⟩
 rw[h6] at a6 b6;have k7:=Ka 7 (by omega) (by omega)
 obtain⟨a7,b7⟩:=cU (n:=3) (hc 7 (by omega)) (by omega)
 obtain⟨x7,h7⟩:∃x,(Ms [] 7).tmod 3=x:=⟨_,rfl⟩
 rw[h7] at a7 b7;have k8:=Ka 8 (by omega) (by omega)
 obtain⟨a8,b8⟩:=cU (n:=2) (hc 8 (by omega)) (by omega)
 obtain⟨x8,h8⟩:∃x,(Ms [] 8).tmod 2=x:=⟨_,rfl⟩
 rw[h8] at a8 b8;have k9:=Ka 9 (by omega) (by omega)
 obtain⟨a9,b9⟩:=cU (n:=5) (hc 9 (by omega)) (by omega)
 obtain⟨x9,h9⟩:∃x,(Ms [] 9).tmod 5=x:=⟨_,rfl⟩
 rw[h9] at a9 b9;have w0:i64.wrap (6+x0)=6+x0:=Ty _ (by omega) (by omega)
 have w3:i64.wrap (1+x3)=1+x3:=Ty _ (by omega) (by omega)
 have w5:i64.wrap (1+x5)=1+x5:=Ty _ (by omega) (by omega)
 have w5':u64.wrap (1+x5)=1+x5:=wrap_u64 _ (by omega) (by omega)
 have w6:i64.wrap (1+x6)=1+x6:=Ty _ (by omega) (by omega)
 have w6':u64.wrap (1+x6)=1+x6:=wrap_u64 _ (by omega) (by omega)
 have w9:i64.wrap (2+x9)=2+x9:=Ty _ (by omega) (by omega)
 have g7:=oI (l:=[0,40,100]) a7 (by show x7<((3:Nat):Int);omega)
 obtain⟨bp,hbp⟩:∃y,it [0,40,100] x7=y:=⟨_,rfl⟩
 have hbp1:0<=bp/\bp<=100:=by
  rcases (by omega:x7=0\/x7=1\/x7=2) with e|e|e<;>(rw[e] at hbp;rw[<- hbp];decide)
 have w7:u64.wrap bp=bp:=wrap_u64 _ (by omega) (by omega)
 rw[cL func101 rfl rfl];simp only[Z8,seval,mN,mO,k0,k1,k2,k3,k4,k5,k6,k7,k8,h0,h1,h2,h3,h4,h5,h6,h7,h8,w0,w3,w5,w5',w6,w6',a7,b7,g7,hbp,w7,pY,Nat.reduceLT,Tw];have n9:(2+x9).toNat<=6:=by omega
 refine cA (fun m st=>∃(j:Nat) (kU:lH) (sp bq:Int) (tt:rD) (X:AV) (b:List Int),(st.env 0=.v (.slice none 0 0)/\st.env 2=.ptr 2 0 0/\st.heap 2 0=some (.cells (bX mX))/\st.env 3=.ptr 3 0 0/\st.heap 3 0=some (.cells (bX ⟨kU,sp,bq,tt,mkRoot 1,X⟩))/\st.env 4=.v (.int .i64 j))/\(kU=⟨6+x0,x1,x2,1+x3,x4,1+x5⟩/\sp=1+x6/\bq=bp)/\((X=.v (.slice none 0 0)/\b=[])\/∃g,X=.own 64 g/\g<st.aQ 64/\st.heap 64 g=some (.row 23 1 b.length (bF b)))/\(∀y∈b,0<=y/\y<=1000)/\b.length=j/\j<=(2+x9).toNat/\m=(2+x9).toNat-j)
  (fun e st=>e=.exit 0/\∃(kU:lH) (sp bq:Int) (tt:rD) (g:Nat) (b:List Int),(st.env 2=.ptr 2 0 0/\st.heap 2 0=some (.cells (bX mX))/\st.env 3=.ptr 3 0 0/\st.heap 3 0=some (.cells (bX ⟨kU,sp,bq,tt,mkRoot 1,.own 64 g⟩))/\st.heap 64 g=some (.row 23 1 b.length (bF b)))/\(kU=⟨6+x0,x1,x2,1+x3,x4,1+x5⟩/\sp=1+x6/\bq=bp)/\(∀y∈b,0<=y/\y<=1000)/\1<=b.length/\b.length<=6) (2+x9).toNat ?step ?start ?rest
 case step =>
  rintro m st ⟨j,kU,sp,bq,tt,X,b,hI,hC,hX,hb,hj,hjn,hm⟩
  by_cases aW:(j:Int)<2+x9
  ·have q0:(0:Int)<=j:=by omega
   have hw:=wk (k:=j) (by omega)
   obtain⟨jj,hjj⟩:∃jj:Int,jj=10+(j:Int):=⟨_,rfl⟩
   have XK:i64.wrap (10+(j:Int))=jj:=by rw[Ty _ (by omega) (by omega),hjj]
   have kj:=Ka jj (by omega) (by omega)
   obtain⟨aj,bj⟩:=cU (n:=40) (Je [] (by decide) jj (by omega) (by omega)).2.1 (by omega)
   obtain⟨y,hy⟩:∃y,(Ms [] jj).tmod 40=y:=⟨_,rfl⟩
   rw[hy] at aj bj;have wy:u64.wrap y=y:=wrap_u64 _ (by omega) (by omega)
   have nL:(b.length:Int)<1000000:=by omega
   have Zg:∀z∈b++[y],0<=z/\z<=1000:=fun z hz=>(mem_append.1 hz).elim (hb z) fun e=>by rw[mem_singleton] at e;rw[e];omega
   have zL:(b++[y]).length=j+1:=by rw[length_append,length_cons,length_nil];omega
   rcases hX with ⟨rfl,rfl⟩|⟨g,rfl,hg,hh⟩
   ·apply oN ((2+x9).toNat-(j+1))
    ·simp only[Z8,seval,hI,k9,h9,w9,aW,XK,kj,hy,wy,hw];rfl
    ·exact⟨j+1,_,_,_,_,_,[]++[y],⟨by simp only[E8,seval,hI],by simp only[E8,seval,hI],by simp only[E8,seval,hI],by simp only[E8,seval,hI],by simp only[E8,seval,hI]<;>rfl,by simp only[E8,seval]⟩,hC,.inr ⟨_,rfl,by simp only[E8,seval]<;>omega,by simp only[E8,seval]<;>rfl⟩,Zg,zL,by omega,rfl⟩
   ·have vQ:(g=st.aQ 64)=False:=eq_false (by omega)
    apply oN ((2+x9).toNat-(j+1))
    ·simp only[Z8,seval,hI,hh,vQ,k9,h9,w9,aW,XK,kj,hy,wy,hw,xK _ _ _ _ nL];rfl
    ·exact⟨j+1,_,_,_,_,_,b++[y],⟨by simp only[E8,seval,hI],by simp only[E8,seval,hI],by simp only[E8,seval,hI],by simp only[E8,seval,hI],by simp only[E8,seval,hI]<;>rfl,by simp only[E8,seval]⟩,hC,.inr ⟨_,rfl,by simp only[E8,seval]<;>omega,by simp only[E8,seval]<;>rfl⟩,Zg,zL,by omega,rfl⟩
  ·rcases hX with ⟨rfl,rfl⟩|⟨g,rfl,hg,hh⟩
   ·simp at hj;omega
   ·apply oT (.exit 0)
    ·simp only[Z8,seval,hI,k9,h9,w9,aW];rfl
    ·exact⟨rfl,_,_,_,_,g,b,⟨by simp only[E8,seval,hI],by simp only[E8,seval,hI],by simp only[E8,seval,hI],by simp only[E8,seval,hI]<;>rfl,by simp only[E8,seval,hh]⟩,hC,hb,by omega,by omega⟩
 case start=>exact⟨0,_,_,_,_,_,[],by and_intros<;>(simp only[E8,seval]<;>rfl),⟨rfl,rfl,rfl⟩,.inl ⟨rfl,rfl⟩,by simp,rfl,by omega,by omega⟩
 case rest =>
  rintro e st ⟨rfl,kU,sp,bq,tt,g,b,hI,⟨rfl,rfl,rfl⟩,hb,zL,Xz⟩
  simp only[Z8,seval,hI];exact⟨_,by apply eG;rfl;all_goals simp only[aJ,Z8,seval,hI,bP,Pf,bM,vA,jE]<;>rfl,⟨⟨6+x0,x1,x2,1+x3,x4,1+x5⟩,1+x6,bq,tt,mkRoot 1,ov bF (some b)⟩,b,rfl,⟨rfl,by omega,hb,by dsimp only;omega,by dsimp only;omega,by dsimp only;omega,by dsimp only;omega,by dsimp only;omega,by dsimp only;omega,by dsimp only;omega,by dsimp only;omega,rfl,by dsimp only;omega⟩⟩
def aII {c:Config} {b:List Int} (h:Bb c b):¬iP (yX c b) (wP c b) ⟨0,c.cV⟩ ⟨0,c.cV⟩:=by
 have g:=(SN h).1
 have hs:1<=(yX c b).cFg.jS/\(yX c b).cFg.jS<=64:=h.jS
 have s0:=aBr (s:=yX c b) hs (e:=0) (x:=0) (by omega) (iM _).1 ⟨by omega,by omega⟩
 have Rx:(sJ (yX c b) 0).1=0:=by rw[s0.1];show (0:Int) * _=0;rw[Int.zero_mul]
 have nd0:nd (wP c b).ns 0=⟨FQ c,-1,1⟩:=rfl
 have he:Jn (yX c b) (wP c b).ns 0 0:=.inr (by rw[Rx,nd0];exact Int.le_refl 0)
 have ha:lW (wP c b).ns 0 0=true:=Ar (GI.new h).up (by omega) (by show (0:Int)<((1:Nat):Int);omega)
 have ht:BB (ol (wP c b).T) ⟨0,c.cV⟩=0:=by
  show sZ (fun k=>(gx dM [(⟨⟨0,c.cV⟩,ov bF (some b)⟩:Table)] k).ck=⟨0,c.cV⟩) 1=0
  exact zP (p:=fun k=>(gx dM [(⟨⟨0,c.cV⟩,ov bF (some b)⟩:Table)] k).ck=⟨0,c.cV⟩) (k:=0) rfl (fun j hj=>by omega) 1 (by omega)
 unfold iP;rw[show (⟨0,c.cV⟩:dL).root=c.cV from rfl,g,nd0,ht,ha];rintro (h1|h1|h1|h1|h1|h1|h1|h1|h1|h1)
 ·omega
 ·omega
 ·exact absurd h1 (by show ¬(1:Int)=2;omega)
 ·exact absurd h1 (by show ¬(1:Int)=2;omega)
 ·exact h1 he
 ·exact h1 he
 ·cases h1
 ·exact absurd h1 (Int.lt_irrefl _)
 ·exact absurd h1 (by have:=(iM ((yX c b).now.tdiv (yX c b).cFg.jS)).1;unfold wL;show ¬_<(0:Int);omega)
 ·omega
def c62:aG prog 62 []=some (.v (.bool true)):=by
 obtain⟨y,hy,c,b,rfl,hc⟩:=aM6
 have fc:Flat (.agg (bX c)):=(wH c).2 (by rw[hc.iF];exact dZ _)
 have aEI:∀(st:St) (d:Option Nat),fJ (aG prog) 101 [.v (.slice none 0 0)] st d=some { dst:=d,val:=.agg (bX c)}:=fun st d=>kx hy (cP (.v _)) fc st d
 have g0:=GI.new hc
 have r0:=RG.new hc
 have fs:=g0.sd.flat
 have aBm:=kx (aIb hc) (cP fc) (.eH _ (bB fs (.v _)))
 have ef:(yX c b).aI.fin=⟨0,c.cV⟩:=rfl
 have ej:(yX c b).aI.eI=⟨0,c.cV⟩:=rfl
 have R0:Rg (0:Int):=⟨by omega,by omega⟩
 have R1:Rg (1:Int):=⟨by omega,by omega⟩
 have pJ:=aII hc
 have cj:sU (yX c b) ⟨0,c.cV⟩=⟨0,c.cV⟩:=if_neg (Int.lt_irrefl _)
 have cf:oB (yX c b) ⟨0,c.cV⟩=⟨0,c.cV⟩:=if_neg (Int.lt_irrefl _)
 have ka:=k58 g0.sd g0.up hc.jS R0 R0 R0 ⟨1,mkRoot 9⟩ ⟨0,c.cV⟩ R1 R0
 have kb:=k58 g0.sd g0.up hc.jS R0 R0 R0 ⟨0,c.cV⟩ ⟨0,c.cV⟩ R0 R0
 have bad:Ri (yX c b) (wP c b) ⟨1,mkRoot 9⟩ ⟨0,c.cV⟩=.eH [.agg (bG gM),.agg (bG gM),.v (.bool false)]:=if_pos (.inl (by
  rw[show sU (yX c b) ⟨1,mkRoot 9⟩=⟨1,mkRoot 9⟩ from if_pos (by show (0:Int)<1;omega)]
  show aC (wP c b).ns (mkRoot 9)<0
  rw[(SN hc).2];omega))
 have aER:Ri (yX c b) (wP c b) ⟨0,c.cV⟩ ⟨0,c.cV⟩=.eH [.agg (bG ⟨0,c.cV⟩),.agg (bG ⟨0,c.cV⟩),.v (.bool true)]:=by
  unfold Ri;rw[cj,cf,if_neg pJ]
 rw[bad] at ka;rw[aER] at kb;have up:Vb (yX c b) (wP c b) ⟨0,c.cV⟩ ⟨0,c.cV⟩=yX c b:=by
  unfold Vb;rw[cj,cf,if_neg pJ,if_pos ef.symm];rfl
 have hB:(wP c b).B≠some []:=fun e=>by have:=hc.nb.1;rw[show b=[] from Option.some.inj e] at this;simp at this
 have hL:(wP c b).L≠some []:=fun e=>by
  have h2:=congrArg List.length (Option.some.inj e)
  rw[length_replicate,length_nil] at h2;have:=hc.nb;omega
 have h60:=c60 g0.sd g0.up (by rw[g0.Ww];omega) hc.jS R0 R0 R0 r0.ne hB hL g0.pos ⟨0,c.cV⟩ ⟨0,c.cV⟩ R0 R0
 rw[up] at h60;have k60:=kx h60 (mM fs (.agg _ (bR _)) (.agg _ (bR _))) fs
 have ke:=k42 g0.sd
 have et:(yX c b).tree=⟨.sl (wP c b).ns.length (bV (wP c b).ns)⟩:=rfl
 have el:(wP c b).ns.length=1:=rfl
 rw[cL func62 rfl rfl];refine iA ?_
 simp only[Z8,seval,aEI,aBm,dR,ef,ej,Tw,ka,kb,k60,ke,et,el,Z6,beI,beB,beq_self_eq_true,decide_true,mN,mO];exact⟨_,bT rfl,rfl⟩
def k62:KC 62 [] (.v (.bool true)):=fun _ _=>bE (fun x h=>by cases h) c62 (.v _)
end Go.Ab.Tryz
namespace Go.Ab.Tryz
open Classical Go.Proofs Go.Ab
open Classical Go.Proofs Go.Ab
end Go.Ab.Tryz
namespace Go.Ab.Tryz
open Classical Go.Proofs Go.Ab
def aM8 (cs:List AV) (n s g m:Nat):fL (.ip cs n) (.ptr s g m)=True:=rfl
def aM9 (cs:List AV) (n s g m:Nat):fL (.ptr s g m) (.ip cs n)=True:=rfl
def x56 {s:aL} {v:SV} {q:Int} (h:GI s v q) (r:RG s v) (k:Int):∃x,aG prog 56 [.agg (aA s),.v (.int .i64 k)]=some x/\∃a b:dL,x=.eH [.agg (bG a),.agg (bG b)]/\Rg a.aE/\Rg b.aE:=by
 have uJ:(0:Int)<(v.ns.length:Int):=by have:=h.pos;omega
 have gJ:¬((v.ns.length:Int)=0):=by omega
 have hs:=h.sd
 obtain⟨b0,_⟩:=Ek k 255 (by decide)
 obtain⟨x1,hx1⟩:∃x,i64.wrap ((BitVec.ofInt i64.bits k &&& BitVec.ofInt i64.bits 255).toNat:Int)=x:=⟨_,rfl⟩
 rw[hx1] at b0;obtain⟨m1,m2⟩:=cU (n:=(v.ns.length:Int)) b0 uJ
 obtain⟨p,hp⟩:∃p,x1.tmod (v.ns.length:Int)=p:=⟨_,rfl⟩
 rw[hp] at m1 m2;obtain⟨b2,_⟩:=Ek (k.fdiv (2 ^ min 8 i64.bits)) 255 (by decide)
 obtain⟨x2,hx2⟩:∃x,i64.wrap ((BitVec.ofInt i64.bits (k.fdiv (2 ^ min 8 i64.bits)) &&& BitVec.ofInt i64.bits 255).toNat:Int)=x:=⟨_,rfl⟩
 rw[hx2] at b2;obtain⟨m3,m4⟩:=cU (n:=(v.ns.length:Int)) b2 uJ
 obtain⟨p',XR⟩:∃p,x2.tmod (v.ns.length:Int)=p:=⟨_,rfl⟩
 rw[XR] at m3 m4;have r1:=(r.nd _ (tN m1 m2)).1
 have r2:=(r.nd _ (tN m3 m4)).1
 have aAD:Rg s.now:=⟨r.now.1,by have:=r.now.2;omega⟩
 have rd:=iM (s.now.tdiv s.cFg.jS)
 have sp0:¬s.cFg.jS=0:=by have:=h.jS.1;omega
 have ht:=hs.tree
 have fl2:∀a b:dL,Flat (.eH [.agg (bG a),.agg (bG b)]):=fun a b=>.eH _ (bB (.agg _ (bR a)) (.agg _ (bR b)))
 rw[cG func56 rfl rfl]
 cases h1:(i64.wrap ((BitVec.ofInt i64.bits (k.fdiv (2 ^ min 16 i64.bits)) &&& BitVec.ofInt i64.bits 3).toNat:Int) == 0) <;>
 cases h2:(i64.wrap ((BitVec.ofInt i64.bits (k.fdiv (2 ^ min 16 i64.bits)) &&& BitVec.ofInt i64.bits 3).toNat:Int) == 1) <;>
 cases h3:(i64.wrap ((BitVec.ofInt i64.bits (k.fdiv (2 ^ min 16 i64.bits)) &&& BitVec.ofInt i64.bits 3).toNat:Int) == 2)
 all_goals
  simp only[ZG,seval,aR9,aM8,aM9,hx1,hp,gJ,m1,m2,hx2,XR,m3,m4,h1,h2,h3,ht,sp0,Tw];exact⟨_,by apply dN;rfl;all_goals simp only[aJ,bY,Z8,seval]<;>rfl,_,_,rfl,by first|exact r1.pj|exact iM _,by first|exact r2.pf|exact iM _⟩
def x57 {s:aL} {v:SV} (hs:SD s v) (hT1:((ol v.T).length:Int)<999999) (gJ:NEv v) (hB:0<(ol v.B).length) (hlim:s.cFg.kU.nD<900000) (c:dL) (L:List dL) (hLc:L=[c]):∃x,aG prog 57 [.agg (aA s),.sl L.length (oY L)]=some x/\∃(o:Option (List Table)),x=.agg (aA { s with tables:=ov aN o })/\SD { s with tables:=ov aN o } { v with T:=o }/\NEv { v with T:=o }/\(((ol o).length:Int)<=max ((ol v.T).length:Int) s.cFg.kU.nD/\ol v.T ⊆ ol o/\(Ot (ol v.T)->Ot (ol o))/\∀t∈ol o,t∈ol v.T\/(0<((ol v.B).length:Int)->QX t (ol v.B).length)):=by
 have tOk:rR ⟨c,ov bF v.B⟩:=⟨v.B,rfl,hs.nB⟩
 obtain⟨y,hy,s',e,rfl,XO,ne,ho⟩:=aLX hs hT1 ⟨c,ov bF v.B⟩ tOk
 have aEG:=kx hy (bB hs.flat ((gZ _).2 tOk.fl)) (.eH _ (bB XO (.v _)))
 have fin:∃(S1:aL) (o:Option (List Table)),(if e=0 then s' else s)=S1/\S1={ s with tables:=ov aN o }/\SD S1 { v with T:=o }/\NEv { v with T:=o }/\(((ol o).length:Int)<=max ((ol v.T).length:Int) s.cFg.kU.nD/\ol v.T ⊆ ol o/\(Ot (ol v.T)->Ot (ol o))/\∀t∈ol o,t∈ol v.T\/(0<((ol v.B).length:Int)->QX t (ol v.B).length)):=by
  by_cases he:e=0
  ·obtain⟨o',hs',hl,ht,aHV,⟨hn,hsrt⟩,hx⟩:=ho he
   refine⟨s',o',if_pos he,hs', ?_,⟨gJ.q,gJ.e,gJ.o,hn,gJ.ea,fun t h=>?_⟩,hl,aHV,hsrt,fun t h=>(hx t h).imp id And.left⟩
   ·rw[hs'];exact⟨hs.iF,hs.dS,hs.gA,hs.early,hs.bN,hs.tree,rfl,hs.eV,ht,hs.nB,hs.nL,hs.nQ,hs.nE,hs.nO,by show ((ol o').length:Int)<_;omega,hs.nn⟩
   ·rcases hx t h with h|⟨_,B,h1,h2⟩
    ·exact gJ.tb t h
    ·exact⟨B,h1,fun e=>by rw[e] at h2;simp only[length_nil] at h2;omega⟩
  ·exact⟨s,v.T,if_neg he,by rw[<- hs.tables],hs,gJ,by omega,fun x h=>h,id,fun t h=>.inl h⟩
 obtain⟨S1,o,e1,e2,e3,e4⟩:=fin
 have f1:=e3.flat
 rw[cL func57 rfl rfl];simp only[Z8,seval];have lc:L.length=1:=by rw[hLc];rfl
 refine cA (fun m st=>∃k:Nat,(st.env 1=.sl L.length (oY L)/\st.env 2=.ptr 2 0 0/\st.heap 2 0=some (.cells (aA (if k=0 then s else S1)))/\st.env 4=.ptr 4 0 0/\st.heap 4 0=some (.cells (aA gC))/\st.env 5=.v (.int .i64 k))/\k<=1/\m=1-k)
  (fun e st=>e=.exit 0/\st.env 2=.ptr 2 0 0/\st.heap 2 0=some (.cells (aA S1))/\st.env 4=.ptr 4 0 0/\st.heap 4 0=some (.cells (aA gC))) 1 ?step ?start ?rest
 case step =>
  rintro m st ⟨k,hI,hk,hm⟩
  rcases Nat.lt_or_ge k 1 with h|h
  ·obtain rfl:k=0:=by omega
   have hw:i64.wrap 1=1:=by rw[Ty _ (by omega) (by omega)]
   have aW:(0:Int)<(L.length:Nat):=by omega
   have g0:gx gM L 0=c:=by rw[hLc];rfl
   simp only[if_true] at hI;by_cases he:e=0
   ·rw[if_pos he] at e1;subst e1;apply oN (0)
    ·simp only[Z8,seval,hI,aW,Int.le_refl,g0,hs.iF,aEG,dR,bt he,hw];rfl
    ·exact⟨1,by simp only[E8,seval,hI,Nat.one_ne_zero,if_false,and_self],by omega,rfl⟩
   ·rw[if_neg he] at e1;subst e1;apply oN (0)
    ·simp only[Z8,seval,hI,aW,Int.le_refl,g0,hs.iF,aEG,dR,bf he,hw];rfl
    ·exact⟨1,by simp only[E8,seval,hI,ite_self,and_self],by omega,rfl⟩
  ·obtain rfl:k=1:=by omega
   have aW:¬((1:Int)<(L.length:Nat)):=by omega
   simp only[Nat.one_ne_zero,if_false] at hI;apply oT (.exit 0)
   ·simp only[Z8,seval,hI,aW];rfl
   ·exact⟨rfl,by simp only[E8,seval,hI]⟩
 case start=>exact⟨0,by simp only[E8,seval]<;>rfl,by omega,rfl⟩
 case rest =>
  rintro e' st ⟨rfl,hI⟩
  simp only[Z8,seval,hI];exact⟨_,fM rfl (by simp only[E8,seval,hI,f1]<;>rfl) (by simp only[Z8,seval,hI,f1]<;>rfl) (by simp only[jE,and_self,hI,f1]),o,by rw[e2],by rw[<- e2];exact e3,e4⟩
def aES {l:List Table} {c:dL} {t:Table} (h:t∈l) (e:t.ck=c):0<=BB l c:=by
 obtain⟨i,hi,rfl⟩:=getElem_of_mem h
 unfold BB;rcases lS (fun k=>(gx dM l k).ck=c) l.length with ⟨_,hj⟩|⟨k,_,_,_,e2⟩
 ·exact absurd (by show (gx dM l ((i:Nat):Int)).ck=c;rw[Bi hi];exact e) (hj i hi)
 ·rw[e2];omega
structure UpT (s t:aL) (v w:SV) (a b:dL):Prop where
 sd:SD t w
 up:fK w.ns
 Ww:(nd w.ns 0).up<0
 pos:0<w.ns.length
 B:w.B=v.B
 L:w.L=v.L
 ne:NEv w\/(w.O=some []/\NEv { w with O:=none }/\oB t b=t.aI.fin)
 jS:t.cFg.jS=s.cFg.jS
 now:t.now=s.now
 j:Rg t.aI.eI.aE
 f:Rg t.aI.fin.aE
 fix:Vb t w a b=t
def aSa {s:aL} {v:SV} (hs:SD s v) (hv:VS s v) (hl:(ol v.L).length=(ol v.B).length):aG prog 132 [.agg (eQ s.fP),.v (.int .i64 (ol v.B).length)]=some (.v (.bool true)):=by
 have hB:=hs.nB
 have hq:=hs.nQ
 have aET:=fun n=>kx (c40 v.Q hq n) (bB (bQ v.Q) (.v _)) (.v _)
 have ee:(((ol v.L).length:Int) == (ol v.B).length)=true/\(((ol v.L).length:Int) != (ol v.B).length)=false:=by rw[hl];simp
 rw[cL func132 rfl rfl];refine iA ?_
 simp only[Z8,seval,hs.dS,ee];refine cA (fun m st=>∃k:Nat,(st.env 1=.v (.int .i64 (ol v.B).length)/\st.env 2=.ptr 2 0 0/\st.heap 2 0=some (.cells (eQ s.fP))/\st.env 5=.v (.int .i64 k))/\k<=(ol v.L).length/\m=(ol v.L).length-k) (fun e st=>e=.exit 0/\st.env 1=.v (.int .i64 (ol v.B).length)/\st.env 2=.ptr 2 0 0/\st.heap 2 0=some (.cells (eQ s.fP))) (ol v.L).length ?step ?start ?rest
 case step =>
  rintro m st ⟨k,hI,hk,hm⟩
  by_cases aW:(k:Int)<(ol v.L).length
  ·have q0:(0:Int)<=k:=by omega
   have hw:=wk (k:=k) (by omega)
   cases hx:(gx pN (ol v.L) (k:Int)).has
   ·have ez:=hv.vo _ (nC (z:=pN) q0 aW) hx
    apply oN ((ol v.L).length-(k+1))
    ·simp only[Z8,seval,hI,aW,q0,hs.dS,hx,ez,show pN.has=false from rfl,decide_true,hw];rfl
    ·exact⟨k+1,by simp only[E8,seval,hI],by omega,rfl⟩
   ·apply oN ((ol v.L).length-(k+1))
    ·simp only[Z8,seval,hI,aW,q0,hs.dS,hx,hw];rfl
    ·exact⟨k+1,by simp only[E8,seval,hI],by omega,rfl⟩
  ·apply oT (.exit 0)
   ·simp only[Z8,seval,hI,aW,hs.dS];rfl
   ·exact⟨rfl,by simp only[E8,seval,hI]⟩
 case start=>exact⟨0,by simp only[E8,seval]<;>rfl,by omega,by omega⟩
 case rest =>
  rintro e st ⟨rfl,hI⟩
  rcases hv.eq with h|h
  ·have h0:(((ol v.Q).length:Int) == 0)=true:=by rw[h];rfl
   simp only[Z8,seval,hI,hs.gA,h0];exact⟨_,bT rfl,rfl⟩
  ·have h1:((0:Int) == 0)=true:=rfl
   cases h0:(((ol v.Q).length:Int) == 0)
   ·simp only[Z8,seval,hI,hs.gA,h0,aET,h,h1];exact⟨_,bT rfl,rfl⟩
   ·simp only[Z8,seval,hI,hs.gA,h0];exact⟨_,bT rfl,rfl⟩
def aSb {s:aL} {v:SV} (hs:SD s v) (hp:s.cFg.jS≠0) (h1:∀n∈v.ns,n.block.slot<=s.now) (h2:∀n∈v.ns,QS s n.block):aG prog 133 [.agg (aA s)]=some (.v (.bool true)):=by
 have hn:=hs.nn
 have ht:=hs.tree
 have k137':=aHG s hp hs.flat
 rw[cL func133 rfl rfl];refine iA ?_
 simp only[Z8,seval];refine cA (fun m st=>∃k:Nat,(st.env 1=.ptr 1 0 0/\st.heap 1 0=some (.cells (aA s))/\st.env 3=.v (.int .i64 k))/\k<=v.ns.length/\m=v.ns.length-k) (fun e st=>e=.exit 0) v.ns.length ?step ?start ?rest
 case step =>
  rintro m st ⟨k,hI,hk,hm⟩
  by_cases aW:(k:Int)<v.ns.length
  ·have q0:(0:Int)<=k:=by omega
   have hw:=wk (k:=k) (by omega)
   have a1:¬s.now<(nd v.ns k).block.slot:=by have:=h1 _ (tN q0 aW);omega
   have a2:=h2 _ (tN q0 aW)
   apply oN (v.ns.length-(k+1))
   ·simp only[Z8,seval,hI,aW,q0,ht,a1,k137',a2,decide_true,hw];rfl
   ·exact⟨k+1,by simp only[E8,seval,hI],by omega,rfl⟩
  ·apply oT (.exit 0)
   ·simp only[Z8,seval,hI,aW,ht];rfl
   ·rfl
 case start=>exact⟨0,by simp only[E8,seval]<;>rfl,by omega,by omega⟩
 case rest =>
  rintro e st rfl
  simp only[Z8,seval];exact⟨_,bT rfl,rfl⟩
def aSc {s:aL} {v:SV} (hs:SD s v) (hv:VS s v) (ho:OP v) (hr:∀o∈ol v.O,o.root≠cO):aG prog 134 [.agg (aA s)]=some (.v (.bool true)):=by
 have hn:=hs.nn
 have ht:=hs.tree
 have nE:=hs.nE
 have nO:=hs.nO
 have hf:=hs.flat
 rw[cL func134 rfl rfl];refine iA ?_
 simp only[Z8,seval];refine cA (fun m st=>∃k:Nat,(st.env 1=.ptr 1 0 0/\st.heap 1 0=some (.cells (aA s))/\st.env 3=.v (.int .i64 k))/\k<=(ol v.E).length/\m=(ol v.E).length-k) (fun e st=>e=.exit 0/\st.env 1=.ptr 1 0 0/\st.heap 1 0=some (.cells (aA s))) (ol v.E).length ?step ?start ?rest
 case step =>
  rintro m st ⟨k,hI,hk,hm⟩
  by_cases aW:(k:Int)<(ol v.E).length
  ·have q0:(0:Int)<=k:=by omega
   have hw:=wk (k:=k) (by omega)
   have hm:=nC (z:=Jx) q0 aW
   obtain⟨V,e1,e2⟩:=hv.ea _ hm
   obtain⟨V',e3,e4⟩:=hs.eV _ hm
   have hV:(V.length:Int)<1000000:=by
    have key:∀V':Option (List Int),ov aM (some V)=ov aM V'->V.length=(ol V').length:=fun V' h=>by
     cases V' with
     | none=>cases h
     | some l=>exact (AV.sl.inj h).1
    have:=key V' (e1.symm.trans e3)
    omega
   have aET:=kx (c40 (some V) hV (ol v.B).length) (bB (bQ (some V)) (.v _)) (.v _)
   rw[Ry,e2] at aET
   apply oN ((ol v.E).length-(k+1))
   ·simp only[Z8,seval,hI,aW,q0,hs.early,e1,Rc hs,aET,hw];rfl
   ·exact⟨k+1,by simp only[E8,seval,hI],by omega,rfl⟩
  ·apply oT (.exit 0)
   ·simp only[Z8,seval,hI,aW,hs.early];rfl
   ·exact⟨rfl,by simp only[E8,seval,hI]⟩
 case start=>exact⟨0,by simp only[E8,seval]<;>rfl,by omega,by omega⟩
 case rest =>
  rintro e st ⟨rfl,hI⟩
  obtain⟨old,hold⟩:∃x,(sJ s s.aI.fin.aE).1=x:=⟨_,rfl⟩
  have Rj:=Ya s hf s.aI.fin.aE
  have oi:=hv.oi
  rw[hold] at Rj oi
  simp only[Z8,seval,hI,Rj,dR];refine cA (fun m st=>∃k:Nat,(st.env 1=.ptr 1 0 0/\st.heap 1 0=some (.cells (aA s))/\st.env 4=.v (.int .u64 old)/\st.env 6=.v (.int .i64 k))/\k<=(ol v.O).length/\m=(ol v.O).length-k) (fun e st=>e=.exit 2) (ol v.O).length ?step ?start ?rest
  case step =>
   rintro m st ⟨k,hI,hk,hm⟩
   by_cases aW:(k:Int)<(ol v.O).length
   case neg =>
    apply oT (.exit 2)
    ·simp only[Z8,seval,hI,aW,hs.bN];rfl
    ·rfl
   have q0:(0:Int)<=k:=by omega
   have hw:=wk (k:=k) (by omega)
   have H5:=nC (z:=dO) q0 aW
   obtain⟨o,eo⟩:∃o,gx dO (ol v.O) (k:Int)=o:=⟨_,rfl⟩
   rw[eo] at H5;obtain⟨a1,a2,a3,a4⟩:=oi o H5
   have b1:=hr o H5
   have b2:¬0<=aC v.ns o.root:=by omega
   have b3:¬0<=aC v.ns o.parent:=by have:=ho o H5;omega
   have b4:¬s.now<o.slot:=by omega
   have b5:¬o.slot<=old:=by omega
   have dst:∀j:Nat,j<k->(gx dO (ol v.O) (j:Int)).root≠o.root:=fun j hj e=>by
    have:=pairwise_iff_getElem.1 hv.on j k (by rw[length_map];omega) (by rw[length_map];omega) hj
    rw[getElem_map,getElem_map,<- Bi,<- Bi,eo] at this;exact this e
   simp only[Z8,seval,hI,aW,q0,eo,hs.bN,b1,ht,lY _ _ hn,b2,b3,a2,b4,b5,decide_false];refine HZ (fun m' st'=>∃j:Nat,(st'.env 1=.ptr 1 0 0/\st'.heap 1 0=some (.cells (aA s))/\st'.env 4=.v (.int .u64 old)/\st'.env 6=.v (.int .i64 k)/\(∃g,st'.env 7=.ptr 7 g 0/\st'.heap 7 g=some (.cells (aU o)))/\st'.env 8=.v (.int .i64 j))/\j<=k/\m'=k-j) (fun e st'=>e=.exit 4/\st'.env 1=.ptr 1 0 0/\st'.heap 1 0=some (.cells (aA s))/\st'.env 4=.v (.int .u64 old)/\st'.env 6=.v (.int .i64 k)) k ?RJ ?BL ?BM
   case RJ =>
    rintro m' st' ⟨j,⟨j1,j2,j3,j4,⟨g,j5,j6⟩,j7⟩,hj,XZ⟩
    by_cases P3:(j:Int)<k
    ·have p0:(0:Int)<=j:=by omega
     have p1:(j:Int)<(ol v.O).length:=by omega
     have hw':i64.wrap ((j:Int)+1)=((j+1:Nat):Int):=by rw[Ty _ (by omega) (by omega)];omega
     have d:=dst j (by omega)
     apply oN (k-(j+1))
     ·simp only[Z8,seval,j1,j2,j3,j4,j5,j6,j7,P3,p0,p1,hs.bN,d,decide_false,hw'];rfl
     ·exact⟨j+1,⟨by simp only[E8,seval,j1],by simp only[E8,seval,j2],by simp only[E8,seval,j3],by simp only[E8,seval,j4],⟨g,by simp only[E8,seval,j5],by simp only[E8,seval,j6]⟩,by simp only[E8,seval]⟩,by omega,rfl⟩
    ·apply oT (.exit 4)
     ·simp only[Z8,seval,j1,j2,j3,j4,j5,j6,j7,P3];rfl
     ·exact⟨rfl,by simp only[E8,seval,j1,j2,j3,j4,and_self]⟩
   case BL=>exact⟨0,⟨by simp only[E8,seval,hI],by simp only[E8,seval,hI],by simp only[E8,seval,hI],by simp only[E8,seval,hI],⟨_,by simp only[E8,seval]<;>rfl,by simp only[E8,seval]<;>rfl⟩,by simp only[E8,seval]⟩,by omega,rfl⟩
   case BM =>
    rintro e st' ⟨rfl,hI'⟩
    refine YE (st':=?s6) ?h6 ((ol v.O).length-(k+1)) (by omega) ?q6
    case h6 =>
     simp only[Z8,seval,hI',hw];rfl
    case q6=>exact⟨k+1,by simp only[E8,seval,hI'],by omega,rfl⟩
  case start=>exact⟨0,by simp only[E8,seval,hI]<;>rfl,by omega,by omega⟩
  case rest =>
   rintro e st rfl
   simp only[Z8,seval];exact⟨_,bT rfl,rfl⟩
structure RV (s:aL) (v:SV):Prop where
 now:s.now<=1099511627776
 fe:s.aI.fin.aE<=s.aI.eI.aE/\s.aI.eI.aE<=wL s s.now
 tb:∃t∈ol v.T,t.ck=s.aI.eI
 nd:∀n∈v.ns,n.block.slot<=s.now
 or:∀o∈ol v.O,o.root≠cO
 vs:VS s v
 op:OP v
def RG.rv {s:aL} {v:SV} (r:RG s v):RV s v:=⟨r.now.2,r.fe,r.tb,fun n hn=>(r.nd n hn).2,fun o ho=>(r.or o ho).2.1,r.vs,r.op⟩
def c63 {s:aL} {v:SV} {q:Int} (g:GI s v q) (r:RV s v) {b:List Int} (hc:Bb s.cFg b):aG prog 63 [.agg (aA s)]=some (.v (.int .i64 0)):=by
 have hs:=g.sd
 have hv:=r.vs
 have hf:=hs.flat
 have hn:=hs.nn
 have ht:=hs.tree
 have fc:Flat (.agg (bX s.cFg)):=(wH _).2 (by rw[hc.iF];exact dZ _)
 have aBm:=kx (aIb hc) (cP fc) (.eH _ (bB (GI.new hc).sd.flat (.v _)))
 have k129':=aPD v.ns hn
 rw[aDY hv.Ca hv.FH] at k129'
 have n1:¬s.cFg.kU.sL<(v.ns.length:Int):=by have:=g.nl;omega
 have n2:¬s.cFg.kU.vU<((ol v.O).length:Int):=by have:=g.nO;omega
 have n3:¬s.cFg.kU.pW<((ol v.E).length:Int):=by have:=g.nE;omega
 have n4:¬s.cFg.kU.nD<((ol v.T).length:Int):=by have:=g.nT;omega
 have uJ:(0:Int)<v.ns.length:=by have:=g.pos;omega
 have l0:(0:Int)<=0:=Int.le_refl _
 have j0:=g.eI
 have j0':¬aC v.ns s.aI.eI.root<0:=by omega
 have j1:=(cS v.ns s.aI.eI.root).2
 have j2:=bf hv.js
 have f1:¬s.aI.eI.aE<s.aI.fin.aE:=by have:=r.fe.1;omega
 have kT:=YT v.T hs.nT hs.fT
 obtain⟨tb,ht1,ht2⟩:=r.tb
 have t0:¬BB (ol v.T) s.aI.eI<0:=by have:=aES ht1 ht2;omega
 have r0:=hv.r0
 have nT:=hs.nT
 rw[cL func63 rfl rfl];refine iA ?_
 simp only[Z8,seval,aBm,dR,ht,k129',hs.bN,hs.early,hs.tables,n1,n2,n3,n4,lY _ _ hn,uJ,l0,j0,j0',j1,j2,f1,kT,t0,r0,decide_true,decide_false];refine cA (fun m st=>∃k:Nat,(st.env 1=.ptr 1 0 0/\st.heap 1 0=some (.cells (aA s))/\st.env 7=.v (.int .i64 k))/\k<=(ol v.T).length/\m=(ol v.T).length-k) (fun e st=>e=.exit 0/\st.env 1=.ptr 1 0 0/\st.heap 1 0=some (.cells (aA s))) (ol v.T).length ?step ?start ?rest
 case step =>
  rintro m st ⟨k,hI,hk,hm⟩
  by_cases aW:(k:Int)<(ol v.T).length
  case neg =>
   apply oT (.exit 0)
   ·simp only[Z8,seval,hI,aW,hs.tables];rfl
   ·exact⟨rfl,by simp only[E8,seval,hI]⟩
  have q0:(0:Int)<=k:=by omega
  have hw:=wk (k:=k) (by omega)
  have hm:=nC (z:=dM) q0 aW
  have fl:=(hs.tB _ hm).fl
  have Yb:=kx (hv.tv _ hm) (bB ((gZ _).2 fl) (.v _)) (.v _)
  by_cases k0:(0:Int)<k
  ·have h1:(0:Int)<=(k:Int)-1:=by omega
   have h2:(k:Int)-1<(ol v.T).length:=by omega
   have XK:i64.wrap ((k:Int)-1)=(k:Int)-1:=by rw[Ty _ (by omega) (by omega)]
   have cm:¬0<=Es (gx dM (ol v.T) ((k:Int)-1)).ck (gx dM (ol v.T) (k:Int)).ck:=by
    have:=pairwise_iff_getElem.1 hv.ts (k-1) k (by omega) (by omega) (by omega)
    rw[<- Bi (z:=dM),<- Bi (z:=dM),show (((k-1:Nat)):Int)=(k:Int)-1 by omega] at this
    omega
   apply oN ((ol v.T).length-(k+1))
   ·simp only[Z8,seval,hI,aW,q0,hs.tables,Rc hs,Yb,k0,h1,h2,XK,aHN,cm,hw];rfl
   ·exact⟨k+1,by simp only[E8,seval,hI],by omega,rfl⟩
  ·apply oN ((ol v.T).length-(k+1))
   ·simp only[Z8,seval,hI,aW,q0,hs.tables,Rc hs,Yb,k0,hw];rfl
   ·exact⟨k+1,by simp only[E8,seval,hI],by omega,rfl⟩
 case start=>exact⟨0,by simp only[E8,seval]<;>rfl,by omega,by omega⟩
 case rest =>
  rintro e st ⟨rfl,hI⟩
  have aIJ:=kx (aSa hs hv g.JB) (bB (.agg _ (pK _ (by rw[hs.dS];exact pM _) (by rw[hs.gA];exact bQ _))) (.v _)) (.v _)
  have aIK:=kx (aSb hs g.sp (r.nd) hv.od) (cP hf) (.v _)
  have aIL:=kx (aSc hs hv r.op r.or) (cP hf) (.v _)
  have m1:¬1099511627776<s.now:=by have:=r.now;omega
  have m2:¬wL s s.now<s.aI.eI.aE:=by have:=r.fe.2;omega
  have aBE:=aHH hs 0 s.aI.fin.aE l0 uJ
  have e0:=hv.e0
  have O8:=Oo s g.sp hf
  rcases hv.bo with hb|hb
  ·simp only[Z8,seval,hI,Rc hs,aIJ,hb,m1,O8,m2,aBE,e0,aIK,aIL,decide_true,decide_false];exact⟨_,bT rfl,rfl⟩
  ·have oM:¬aC v.ns s.dV<0:=by omega
   by_cases hz:s.dV=cO
   ·simp only[Z8,seval,hI,Rc hs,aIJ,hz,m1,O8,m2,aBE,e0,aIK,aIL,decide_true,decide_false];exact⟨_,bT rfl,rfl⟩
   ·simp only[Z8,seval,hI,Rc hs,aIJ,hz,ht,lY _ _ hn,oM,m1,O8,m2,aBE,e0,aIK,aIL,decide_true,decide_false];exact⟨_,bT rfl,rfl⟩
structure Alt (s s':aL) (v v':SV):Prop where
 c:s'.cFg=s.cFg
 f:s'.aI=s.aI
 n:s'.now=s.now
 b:s'.dV=s.dV
 ns:v'.ns=v.ns
 L:v'.L=v.L
 B:v'.B=v.B
 Q:v'.Q=v.Q
 E:v'.E=v.E
 O:ol v'.O=ol v.O
 T:ol v'.T=ol v.T
def GI.alt {s s':aL} {v v':SV} {q:Int} (h:GI s v q) (hd:SD s' v') (e:Alt s s' v v'):GI s' v' q :=
 ⟨hd,by rw[e.ns];exact h.up,by rw[e.ns];exact h.Ww,by rw[e.ns];exact h.pos,by rw[e.ns,e.c];exact h.nl,by rw[e.c];exact h.PK,by rw[e.c];exact h.jS,by rw[e.L,e.B];exact h.JB,by rw[e.B];exact h.nB,by rw[e.O,e.c];exact h.nO,by rw[e.c];exact h.LJ,by rw[e.E,e.c];exact h.nE,by rw[e.c];exact h.PL,by rw[e.T,e.c];exact h.nT,by rw[e.c];exact h.PM,by rw[e.Q];exact h.nQ,h.O7,by rw[e.ns,e.f];exact h.eI⟩
def VS.alt {s s':aL} {v v':SV} (h:VS s v) (e:Alt s s' v v'):VS s' v' :=
 ⟨by rw[e.ns];exact h.Ca,by rw[e.ns];exact h.FH,by rw[e.ns];exact h.AS,by rw[e.ns,e.f];exact h.js,by rw[e.ns,e.f];exact h.r0,by have:=h.e0;unfold Jn sJ at this ⊢;rw[e.ns,e.f,e.c];exact this,by rw[e.T,e.B];exact h.tv,by rw[e.T];exact h.ts,by rw[e.L];exact h.vo,by rw[e.Q,e.B];exact h.eq,by rw[e.b,e.ns];exact h.bo,by have:=h.od;unfold QS wL at this ⊢;rw[e.ns,e.c];exact this,by rw[e.E,e.B];exact h.ea,by have:=h.oi;unfold sJ at this ⊢;rw[e.O,e.ns,e.n,e.f,e.c];exact this,by rw[e.O];exact h.on⟩
def RG.alt {s s':aL} {v v':SV} (h:RG s v) (e:Alt s s' v v'):RV s' v' :=
 have h:=h.rv
 ⟨by rw[e.n];exact h.now,by have:=h.fe;unfold wL at this ⊢;rw[e.f,e.n,e.c];exact this,by rw[e.T,e.f];exact h.tb,by rw[e.ns,e.n];exact h.nd,by rw[e.O];exact h.or,h.vs.alt e,by have:=h.op;unfold OP at this ⊢;rw[e.O,e.ns];exact this⟩
def ME (s:aL) (v:SV) (c1 c2:dL):SV :=
 if iP s v (sU s c1) (oB s c2) then v else
 if oB s c2=s.aI.fin then { v with T:=v.T.map fun l=>tY l (sU s c1).aE } else
 { v with T:=v.T.map fun l=>tY l (sU s c1).aE,ns:=(gN v.ns (aC v.ns (oB s c2).root) v.ns.length).1,O:=v.O.map fun l=>l.filter fun b=>decide ((sJ s (oB s c2).aE).1<b.slot)}
def aBF {α:Type} (o:Option (List α)) (p:α->Bool):ol (o.map fun l=>l.filter p)=ol (nz ((ol o).filter p)):=by
 rw[mF];cases o<;>rfl
def TB (s:aL) (v:SV) (c1 c2:dL):Alt (pV s v c1 c2) (Vb s v c1 c2) (rE s v c1 c2) (ME s v c1 c2):=by
 have h1:ol (v.T.map fun l=>tY l (sU s c1).aE)=ol (nz (tY (ol v.T) (sU s c1).aE)):=aBF v.T _
 have h2:=aBF v.O fun b=>decide ((sJ s (oB s c2).aE).1<b.slot)
 unfold pV Vb rE ME;by_cases b:iP s v (sU s c1) (oB s c2)
 ·rw[if_pos b,if_pos b,if_pos b,if_pos b];exact⟨rfl,rfl,rfl,rfl,rfl,rfl,rfl,rfl,rfl,rfl,rfl⟩
 rw[if_neg b,if_neg b,if_neg b,if_neg b];by_cases e:oB s c2=s.aI.fin
 ·rw[if_pos e,if_pos e,if_pos e,if_pos e];exact⟨rfl,rfl,rfl,rfl,rfl,rfl,rfl,rfl,rfl,rfl,h1⟩
 ·rw[if_neg e,if_neg e,if_neg e,if_neg e];exact⟨rfl,rfl,rfl,rfl,rfl,rfl,rfl,rfl,rfl,h2,h1⟩
def SD.Vb {s:aL} {v:SV} (h:SD s v) (hu:fK v.ns) (c1 c2:dL):SD (Vb s v c1 c2) (ME s v c1 c2):=by
 have g:=h.dP hu c1 c2
 have e:=TB s v c1 c2
 have eB:∀t∈ol (ME s v c1 c2).T,rR t:=by rw[e.T];exact g.tB
 have eT:((ol (ME s v c1 c2).T).length:Int)<1000000:=by rw[e.T];exact g.nT
 have eO:((ol (ME s v c1 c2).O).length:Int)<1000000:=by rw[e.O];exact g.nO
 have en:((ME s v c1 c2).ns.length:Int)<1000000:=by rw[e.ns];exact g.nn
 clear e g
 unfold Tryz.Vb;unfold ME at eB eT eO en ⊢
 by_cases b:iP s v (sU s c1) (oB s c2)
 ·rw[if_pos b,if_pos b];exact h
 rw[if_neg b] at eB eT eO en;rw[if_neg b,if_neg b];by_cases e:oB s c2=s.aI.fin
 ·rw[if_pos e] at eB eT eO en;rw[if_pos e,if_pos e];exact⟨h.iF,h.dS,h.gA,h.early,h.bN,h.tree,rfl,h.eV,eB,h.nB,h.nL,h.nQ,h.nE,h.nO,eT,h.nn⟩
 ·rw[if_neg e] at eB eT eO en;rw[if_neg e,if_neg e];exact⟨h.iF,h.dS,h.gA,h.early,rfl,rfl,rfl,h.eV,eB,h.nB,h.nL,h.nQ,h.nE,eO,eT,en⟩
def aBG {s:aL} {v:SV} (h:VS s v) (c1 c2:dL):∃b:Int,aC v.ns (pV s v c1 c2).aI.fin.root=b/\(0<=b/\b<v.ns.length)/\(rE s v c1 c2).ns.length=(As v.ns b v.ns.length).length/\(∀n∈(rE s v c1 c2).ns,lW v.ns b (aC v.ns n.block.root)=true)/\s.aI.eI.aE<=(pV s v c1 c2).aI.eI.aE:=by
 have hp:=h.Ca.Ol
 have z0:aC v.ns s.aI.fin.root=0:=h.Ca.find (Int.le_refl 0) (by omega) h.r0
 have a0:∀i:Int,0<=i->i<v.ns.length->lW v.ns 0 i=true:=fun i i0 i1=>IB h.Ca.up _ i rfl i0 i1
 have d0:∀k:Nat,k<=v.ns.length->(As v.ns 0 k).length=k:=by
  intro k;induction k with
  | zero=>exact fun _=>rfl
  | succ k ih =>
    intro hk;unfold As;rw[if_pos (a0 k (by omega) (by omega)),length_append,ih (by omega)]
    rfl
 have same:∀n∈v.ns,lW v.ns 0 (aC v.ns n.block.root)=true:=fun n hn=>by
  obtain⟨i,hi,rfl⟩:=JD hn
  rw[h.Ca.find hi.1 hi.2 rfl];exact a0 i hi.1 hi.2
 have jl:s.aI.eI.aE<=(sU s c1).aE:=by unfold sU;split<;>omega
 unfold pV rE;by_cases b:iP s v (sU s c1) (oB s c2)
 ·rw[if_pos b,if_pos b];exact⟨0,z0,⟨Int.le_refl 0,by omega⟩,(d0 _ (Nat.le_refl _)).symm,same,Int.le_refl _⟩
 rw[if_neg b,if_neg b];by_cases e:oB s c2=s.aI.fin
 ·rw[if_pos e,if_pos e];refine⟨0, ?_,⟨Int.le_refl 0,by omega⟩,(d0 _ (Nat.le_refl _)).symm,same,jl⟩
  show aC v.ns (oB s c2).root=0
  rw[e];exact z0
 ·rw[if_neg e,if_neg e];have b2:=(Ur b).2.1
  have rF:=cS v.ns (oB s c2).root
  refine⟨aC v.ns (oB s c2).root,rfl,⟨b2,rF.2⟩, ?_,fun n hn=>?_,jl⟩
  ·have:∀(i:Int) (k:Nat),(gN v.ns i k).1.length=(As v.ns i k).length:=by
    intro i k;induction k with
    | zero=>rfl
    | succ k ih =>
      unfold gN As;simp only
      split
      ·rw[length_append,length_append,ih];rfl
      ·exact ih
   exact this _ _
  ·obtain⟨m,hm,rfl⟩:=JD (show n∈(gN v.ns (aC v.ns (oB s c2).root) v.ns.length).1 from hn)
   obtain⟨a,a0,a1,ha,rfl⟩:=xU v.ns _ v.ns.length m hm.1 hm.2
   rw[(vS h.Ca.up ha).2.2];rw[h.Ca.find a0 a1 rfl];exact ha
def aSd {s:aL} {v:SV} {q:Int} (g:GI s v q) (r:RG s v) (hB:0<(ol v.B).length) (c:dL) (L:List dL) (hLc:L=[c]):∃x,aG prog 57 [.agg (aA s),.sl L.length (oY L)]=some x/\∃(o:Option (List Table)),x=.agg (aA { s with tables:=ov aN o })/\GI { s with tables:=ov aN o } { v with T:=o } q/\RG { s with tables:=ov aN o } { v with T:=o }:=by
 have hnT:=g.nT
 have hnTB:=g.PM
 obtain⟨x,hx,o,ho,h1,h2,h3⟩:=x57 g.sd (by omega) r.ne hB (by omega) c L hLc
 obtain⟨n1,n2,n3,n4⟩:=h3
 refine⟨x,hx,o,ho,⟨h1,g.up,g.Ww,g.pos,g.nl,g.PK,g.jS,g.JB,g.nB,g.nO,g.LJ,g.nE,g.PL, ?_,g.PM,g.nQ,g.O7,g.eI⟩,⟨⟨r.now,r.j,r.f,r.nd,r.or,r.rt,r.fe,r.ds, ?_,h2, ?_⟩,r.op⟩⟩
 ·show ((ol o).length:Int)<=s.cFg.kU.nD;omega
 ·obtain⟨t,h4,h5⟩:=r.tb;exact⟨t,n2 h4,h5⟩
 ·exact r.vs.PN o _ (fun t ht=>(n4 t ht).elim (r.vs.tv t) fun h=>h (by omega)) (n3 r.vs.ts)
def c16 (l:List Int) (k:Int) (hl:(l.length:Int)<=9223372036854775807):aG prog 16 [.sl l.length (aM l),.v (.int .i64 k)]=some (.v (.bool true)):=by
 obtain⟨t,v,Q,R,hy,T⟩:=x24 l hl
 have k24:=kx hy (cP (Ud l)) T.td.flat
 have hs:=T.gi.sd
 have fs:=hs.flat
 obtain⟨kk,hkk⟩:∃kk,i64.wrap ((BitVec.ofInt i64.bits k &&& BitVec.ofInt i64.bits 16777215).toNat:Int)=kk:=⟨_,rfl⟩
 obtain⟨y,hy2,a,b,rfl,ra,rb⟩:=x56 T.gi T.rg kk
 have k56:=kx hy2 (bB fs (.v _)) (.eH _ (bB (.agg _ (bR a)) (.agg _ (bR b))))
 obtain⟨hB,L,hL,hL0⟩:=T.lists
 have Zg:v.L≠some []:=fun e=>hL0 (Option.some.inj (hL.symm.trans e))
 have aAD:Rg t.store.now:=⟨T.rg.now.1,by have:=T.rg.now.2;omega⟩
 have aEn:=T.toTI0.iF
 obtain⟨cb,hcb⟩:=T.cfg
 obtain⟨z,hz,o,rfl,g1,r1⟩:=aSd T.gi T.rg aEn.1 a [a] rfl
 obtain⟨s1,hs1⟩:∃s1,({ t.store with tables:=ov aN o }:aL)=s1:=⟨_,rfl⟩
 have hc1:Bb s1.cFg cb:=by rw[<- hs1];exact hcb
 have nw1:Rg s1.now:=by rw[<- hs1];exact aAD
 rw[hs1] at hz g1 r1;obtain⟨v1,hv1⟩:∃v1,({ v with T:=o }:SV)=v1:=⟨_,rfl⟩
 have hB1:v1.B≠some []:=by rw[<- hv1];exact hB
 have hL2:v1.L≠some []:=by rw[<- hv1];exact Zg
 rw[hv1] at g1 r1;have d1:=g1.sd
 have fs1:=d1.flat
 have h60:=c60 d1 g1.up (by rw[g1.Ww];omega) g1.jS nw1 r1.j r1.f r1.ne hB1 hL2 g1.pos a b ra rb
 have al:=TB s1 v1 a b
 have d2:=d1.Vb g1.up a b
 have g2:=(g1.dP a b).alt d2 al
 have r2:=(r1.dP ra rb).alt al
 obtain⟨bi,eb,⟨bi0,bi1⟩,hlen,yS,P3⟩:=aBG r1.vs a b
 have pH:=RF s1 v1 a b
 rw[<- al.f] at eb P3 pH;rw[<- al.ns] at hlen yS;have hc2:Bb (Vb s1 v1 a b).cFg cb:=by rw[al.c,uB];exact hc1
 obtain⟨u,hu⟩:∃u,Vb s1 v1 a b=u:=⟨_,rfl⟩
 obtain⟨w,hw⟩:∃w,ME s1 v1 a b=w:=⟨_,rfl⟩
 rw[hu] at h60 d2 g2 r2 eb P3 pH hc2;rw[hw] at d2 g2 r2 hlen yS;have fu:=d2.flat
 have k63:=kx (c63 g2 r2 hc2) (cP fu) (.v _)
 have fc:∀c:dL,Flat (.agg (bG c)):=fun c=>.agg _ (bR c)
 have k60:=kx h60 (mM fs1 (fc a) (fc b)) fu
 have k57:∀(st:St) (p g:Nat) (d:Option Nat),st.heap p g=some (.row 41 33 1 (bG a))->fJ (aG prog) 57 [.agg (aA t.store),.own p g] st d=some { dst:=d,val:=.agg (aA s1),dP:=some (p,g,none)}:=fun st p g d hh=>by
  have hh':fS st (.own p g)=some (.sl [a].length (oY [a])):=by
   have:oY [a]=bG a:=by simp[oY]
   rw[this];exact CG hh (bR _)
  rw[Ro (s:=p) (k:=g) (by rw[flatMap_cons,wO fs];rfl) (by intro y hy;simp only[mem_cons,not_mem_nil,or_false] at hy;rcases hy with rfl|rfl;exact .inl fs;exact .inr (.inl ⟨p,g,rfl⟩)),map_cons,map_cons,map_nil,eC fs,hh',bK,bK,fY]
  exact RM hz fs1
 have ht1:=d1.tree
 have htu:=d2.tree
 have n1:=d1.nn
 have nu:=d2.nn
 have hpu:(0:Int)<(w.ns.length:Int):=by have:=g2.pos;omega
 have hpu':((w.ns.length:Int) == 0)=false:=(bf (show ¬(w.ns.length:Int)=0 by omega)).1
 have l0:(0:Int)<=0:=Int.le_refl _
 have m1:¬u.aI.eI.aE<s1.aI.eI.aE:=by omega
 have m2:¬u.aI.fin.aE<s1.aI.fin.aE:=by omega
 have m3:=r2.vs.r0
 have z0:aC v1.ns s1.aI.fin.root=0:=r1.vs.Ca.find l0 (by have:=g1.pos;omega) r1.vs.r0
 have a0:lW v1.ns 0 bi=true:=IB g1.up _ bi rfl bi0 bi1
 have jw:¬aC w.ns u.aI.eI.root<0:=by have:=g2.eI;omega
 have k47a:=Qh v1.ns g1.up n1
 have dne:As v1.ns bi v1.ns.length≠[]:=fun e=>by rw[e] at hlen;have h0:w.ns.length=0:=hlen;omega
 have k64':=k64 v1.ns g1.up n1 bi dne
 have hll:((w.ns.length:Int) == ((As v1.ns bi v1.ns.length).length:Int))=true:=by rw[hlen];simp
 have zz:((0:Int) == 0)=true/\((0:Int) != 0)=false:=⟨rfl,rfl⟩
 rw[cL func16 rfl rfl];refine iA ?_
 simp only[Z8,seval,k24,hkk,k56,dR,k57,k60,htu,ht1,hpu,hpu',l0,k63,zz,m1,m2,m3,lY _ _ n1,lY _ _ nu,z0,eb,k47a,a0,jw,decide_true,decide_false];refine cA (fun m st=>∃k:Nat,(st.env 5=.ptr 5 0 0/\st.heap 5 0=some (.cells (aA s1))/\st.env 8=.ptr 8 0 0/\st.heap 8 0=some (.cells (aA u))/\st.env 10=.v (.int .i64 bi)/\st.env 11=.v (.int .i64 k))/\k<=w.ns.length/\m=w.ns.length-k) (fun e st=>e=.exit 0/\st.env 5=.ptr 5 0 0/\st.heap 5 0=some (.cells (aA s1))/\st.env 8=.ptr 8 0 0/\st.heap 8 0=some (.cells (aA u))/\st.env 10=.v (.int .i64 bi)) w.ns.length ?step ?start ?rest
 case step =>
  rintro m st ⟨k,hI,hk,hm⟩
  by_cases aW:(k:Int)<w.ns.length
  ·have q0:(0:Int)<=k:=by omega
   have hw:=wk (k:=k) (by omega)
   have ha:=yS _ (tN q0 aW)
   apply oN (w.ns.length-(k+1))
   ·simp only[Z8,seval,hI,aW,q0,ht1,htu,lY _ _ n1,k47a,ha,hw];rfl
   ·exact⟨k+1,by simp only[E8,seval,hI],by omega,rfl⟩
  ·apply oT (.exit 0)
   ·simp only[Z8,seval,hI,aW,htu];rfl
   ·exact⟨rfl,by simp only[E8,seval,hI]⟩
 case start=>exact⟨0,by simp only[E8,seval]<;>rfl,by omega,by omega⟩
 case rest =>
  rintro e st ⟨rfl,hI⟩
  simp only[Z8,seval,hI,htu,ht1,k64',hll,k62];exact⟨_,bT rfl,rfl⟩
end Go.Ab.Tryz
