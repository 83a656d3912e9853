/-
  Part 17 of the proof: an evaluator of programs, its soundness, and what functions of this program compute.
-/
import Derived.Test.YtmcjkemalibacaaGreatK16
import Derived.Test.YtmcjkemalibacaaGreatK14
set_option linter.all false
set_option maxRecDepth 20000
set_option maxHeartbeats 40000000
namespace Go.Ab.Tryz
open Classical Go.Proofs Go.Ab
def Ao (s g:Nat) (st st':St):Prop:=(∀x h,h<st.aQ x→¬(x=s∧h=g)→st'.heap x h=st.heap x h)∧∀x,st.aQ x≤st'.aQ x
theorem Ao.refl (s g:Nat) (st:St):Ao s g st st:=⟨fun _ _ _ _=>rfl,fun _=>Nat.le_refl _⟩
theorem Di:aC 0 1 (some 4)=[]∧aC 1 4 (some 8)=[]∧aC 2 2 (some 11)=[]∧aC 3 2 (some 13)=[]∧aC 4 3 (some 14)=[]∧aC 5 4 (some 16)=[]∧aC 6 3 (some 20)=[]∧aC 7 6 (some 22)=[]∧aC 8 4 (some 26)=[]∧aC 9 5 (some 30)=[]∧aC 10 3 (some 34)=[]∧aC 11 4 (some 36)=[]∧aC 12 4 (some 39)=[]:=⟨rfl,rfl,rfl,rfl,rfl,rfl,rfl,rfl,rfl,rfl,rfl,rfl,rfl⟩
structure KOk (K:St→Prop) (s g e sz:Nat) (cs:Nat→List AV→Prop):Prop where
 put:∀st d v,K (St.put st d v)=K st
 new:∀st x,K (St.new st 7 x)=K st
 set:∀st h x,K (St.jB st 7 h x)=K st
 back:∀a st,K (St.back a st)=K st
 row:∀st n C,cs n C→K st→K (St.jB st s g (some (.row e sz n C)))
theorem FB {α:Type} {p:α→Bool} {l:List α} (h:∀j:Nat,j<l.length→∀hj:j<l.length,¬p l[j]=true):l.filter (fun x=>!p x)=l:=by
 refine List.filter_eq_self.2 fun x hx=>?_
 obtain⟨i,hi,rfl⟩:=List.getElem_of_mem hx
 simpa using h i hi hi
theorem Xv {α:Type} {p:α→Bool} {l:List α} {k:Nat} (hk:k<l.length) (hp:p l[k]=true) (h:∀j:Nat,j<k→∀hj:j<l.length,¬p l[j]=true):(l.take (k+1)).filter (fun x=>!p x)=l.take k:=by
 rw[List.take_succ_eq_append_getElem hk,List.filter_append];have h1:(l.take k).filter (fun x=>!p x)=l.take k:=by
  refine List.filter_eq_self.2 fun x hx=>?_
  obtain⟨i,hi,rfl⟩:=List.getElem_of_mem hx
  rw[List.length_take] at hi;rw[List.getElem_take];simpa using h i (by omega) (by omega)
 simp[h1,hp]
theorem FC {α:Type} {q:α→Bool} {l:List α} {k:Nat} (hk:k<l.length):(l.take (k+1)).filter q=(l.take k).filter q++(if q l[k]=true then [l[k]] else []):=by
 rw[List.take_succ_eq_append_getElem hk,List.filter_append];congr 1
 by_cases h:q l[k]=true<;>simp[h]
theorem j8 {α:Type} {p:α→Bool} {l:List α} {k:Nat} (hk:k<l.length) (hp:p l[k]=true):(l.filter (fun x=>!p x)).length<l.length:=by
 rcases Nat.lt_or_ge (l.filter (fun x=>!p x)).length l.length with h|h
 ·exact h
 ·have h2:=List.Sublist.eq_of_length_le (List.filter_sublist (p:=fun x=>!p x) (l:=l)) h
  have h3:=(List.filter_eq_self.1 h2) _ (List.getElem_mem hk)
  simp[hp] at h3
theorem j9 {α:Type} {z:α} {M L:List α} {j:Nat} (h:M.drop j=L.drop j):gx z M (j:Int)=gx z L (j:Int):=by
 have h1:(M.drop j)[0]? = (L.drop j)[0]?:=by rw[h]
 rw[List.getElem?_drop,List.getElem?_drop,Nat.add_zero] at h1;unfold gx;rw[Int.toNat_natCast,List.getD_eq_getElem?_getD,List.getD_eq_getElem?_getD,h1]
theorem yG {α:Type} {M L:List α} {j:Nat} (h:M.drop j=L.drop j):M.drop (j+1)=L.drop (j+1):=by
 have:=congrArg (List.drop 1) h
 rwa [List.drop_drop,List.drop_drop] at this
theorem Hm {α:Type} {z:α} {l:List α} {j:Nat} (h:j<l.length):gx z l (j:Int)=l[j]:=by
 unfold gx;rw[Int.toNat_natCast,List.getD_eq_getElem?_getD,List.getElem?_eq_getElem h];rfl
theorem NV {α:Type} {M:List α} {k:Nat} (hk:k<M.length) (x:α):(M.set k x).take (k+1)=M.take k++[x]:=by
 rw[List.take_succ_eq_append_getElem (by rw[List.length_set];exact hk),List.take_set_of_le (Nat.le_refl _),List.getElem_set_self]
theorem set_drop {α:Type} {M:List α} {k j:Nat} (h:k<j) (x:α):(M.set k x).drop j=M.drop j:=by
 rw[List.drop_set_of_lt h]
theorem aGY (L:List Table) (hn:(L.length:Int)<1000000) (hFl:∀y∈L,Flat y.iP) (p:Table→Bool) (F s g a b:Nat) (h7:s≠7) (K:St→Prop) (hK:KOk K s g 118 34 (fun n C=>∃M:List Table,n=M.length∧M.length=L.length∧C=aI M∧(∀y∈M,Flat y.iP)))
 (zD:∀x∈L,∀(st:St) (d:Option Nat),K st→aN (aB Tryz.prog) F ([.agg (cA x)]++[.ptr a b 0]) st d=some { dst:=d,val:=.v (.bool (p x))})
 (ZB:∀(st:St) (d:Option Nat),K st→st.heap s g=some (.row 118 34 L.length (aI L))→aN (aB Tryz.prog) 173 [.own s g,.rS F [.ptr a b 0]] st d=some { dst:=d,val:=.v (.int .i64 (uF (fun k=>p (gx dX L k)=true) L.length))})
 (Of:St) (qA:K Of) (hg:g<Of.aQ s) (hh:Of.heap s g=some (.row 118 34 L.length (aI L))) :
 ∃st',if L.filter (fun x=>!p x)=L then pR Tryz.prog 123 [.own s g,.rS F [.ptr a b 0]] Of=some (.own s g,st')∧Ao s g Of st'∧st'.heap s g=some (.row 118 34 L.length (aI L)) else
  pR Tryz.prog 123 [.own s g,.rS F [.ptr a b 0]] Of=some (.vw s g 0 (L.filter (fun x=>!p x)).length,st')∧Ao s g Of st'∧∃Z,(∀c∈Z,Flat c)∧((aI (L.filter (fun x=>!p x)))++Z).length=L.length * 34∧st'.heap s g=some (.row 118 34 L.length (aI (L.filter (fun x=>!p x))++Z)):=by
 have NX:=hK.put
 have VF:=hK.new
 have VG:=hK.set
 have hKb:=hK.back
 have s7:(s=7)=False:=eq_false h7
 have s7':(7=s)=False:=eq_false (fun e=>h7 e.symm)
 rcases qZ (fun k=>p (gx dX L k)=true) L.length with ⟨e,hj⟩|⟨k,hk,hp,hj,e⟩
 ·have hf:L.filter (fun x=>!p x)=L:=FB fun j h1 h2=>by have:=hj j h1;rwa [Hm h2] at this
  rw[e] at ZB;suffices h:∃r:AV × St,pR Tryz.prog 123 [.own s g,.rS F [.ptr a b 0]] Of=some r∧r.1=.own s g∧Ao s g Of r.2∧r.2.heap s g=some (.row 118 34 L.length (aI L)) by
   obtain⟨⟨x,st'⟩,h1,h2,h3,h4⟩:=h
   obtain rfl:x=.own s g:=h2
   exact⟨st',by rw[if_pos hf];exact⟨h1,h3,h4⟩⟩
  rw[Bj Tryz.prog Tryz.func123 rfl (by kernel_rfl)]
  simp only[ZG,seval,Bool.false_and,Prod.mk.injEq,Di,bS,aT,NX,VF,VG,hKb,qA,hh,ZB];refine⟨_,wV (P:=Tryz.prog) (fn:=Tryz.f123) (r:=.tmp 4) (x:=.own s g) (.inl rfl) rfl ?h1,rfl,⟨fun y h h1 h2=>?h2,fun y=>?h3⟩, ?h4⟩
  case h1=>rw[rH];simp only[bY,E8,seval]
  case h2=>simp only[E8,seval,aT,aX]
  case h3=>simp only[E8,seval,aT,aX];exact Nat.le_refl _
  case h4=>simp only[E8,seval,aT,aX,hh]
 ·have bA:=j8 (p:=p) hk (by have:=hp;rwa [Hm hk] at this)
  have hf:¬L.filter (fun x=>!p x)=L:=fun e=>by rw[e] at bA;omega
  rw[e] at ZB;suffices h:∃r:AV × St,pR Tryz.prog 123 [.own s g,.rS F [.ptr a b 0]] Of=some r∧r.1=.vw s g 0 (L.filter (fun x=>!p x)).length∧Ao s g Of r.2∧∃Z,(∀c∈Z,Flat c)∧((aI (L.filter (fun x=>!p x)))++Z).length=L.length * 34∧r.2.heap s g=some (.row 118 34 L.length (aI (L.filter (fun x=>!p x))++Z)) by
   obtain⟨⟨x,st'⟩,h1,h2,h3⟩:=h
   obtain rfl:x=.vw s g 0 (L.filter (fun x=>!p x)).length:=h2
   exact⟨st',by rw[if_neg hf];exact⟨h1,h3⟩⟩
  have E0:¬(k:Int)=-1:=by omega
  have hw0:IntKind.i64.wrap ((k:Int)+1)=((k+1:Nat):Int):=by rw[mZ _ (by omega) (by omega)];omega
  rw[Bj Tryz.prog Tryz.func123 rfl (by kernel_rfl)]
  simp only[ZG,seval,Bool.false_and,Prod.mk.injEq,Di,bS,aT,NX,VF,VG,hKb,qA,hh,ZB,bf E0,hw0];refine jH (fun m st=>∃(j k':Nat) (M:List Table),((st.env 0=.own s g∧st.env 1=.rS F [.ptr a b 0]∧st.env 5=.v (.int .i64 (k':Nat))∧st.heap s g=some (.row 118 34 M.length (aI M))∧K st)∧st.env 6=.v (.int .i64 (j:Nat)))∧Ao s g Of st∧M.length=L.length∧(∀y∈M,Flat y.iP)∧M.take k'=(L.take j).filter (fun x=>!p x)∧k'=((L.take j).filter (fun x=>!p x)).length∧M.drop j=L.drop j∧k'<j∧j≤L.length∧m=L.length-j)
   (fun e st=>e=.exit 0∧∃(k':Nat) (M:List Table),((st.env 0=.own s g∧st.env 1=.rS F [.ptr a b 0]∧st.env 5=.v (.int .i64 (k':Nat))∧st.heap s g=some (.row 118 34 M.length (aI M))∧K st))∧Ao s g Of st∧M.length=L.length∧(∀y∈M,Flat y.iP)∧M.take k'=L.filter (fun x=>!p x)∧k'=(L.filter (fun x=>!p x)).length) (L.length-(k+1)) ?step ?start ?rest
  case step =>
   rintro m st ⟨j,k',M,hI,hF,hM,hMf,hT,Xw,hD,hkj,hj',hm⟩
   by_cases Fw:(j:Int)<M.length
   case neg =>
    have hjn:j=L.length:=by omega
    subst hjn;rw[List.take_length] at hT Xw
    apply AX (.exit 0)
    ·simp only[ZG,seval,Bool.false_and,Prod.mk.injEq,Di,hI,Fw];rfl
    ·exact⟨rfl,k',M,by simp only[E8,seval,NX,hI],⟨fun y h h1 h2=>by simp only[E8,seval];exact hF.1 y h h1 h2,fun y=>by simp only[E8,seval];exact hF.2 y⟩,hM,hMf,hT,Xw⟩
   have hjL:j<L.length:=by omega
   have q0:(0:Int)≤j:=by omega
   have q1:(0:Int)≤k':=by omega
   have q2:(k':Int)<M.length:=by omega
   have q3:(k':Int).toNat<M.length:=by omega
   have hwj:IntKind.i64.wrap ((j:Int)+1)=((j+1:Nat):Int):=by rw[mZ _ (by omega) (by omega)];omega
   have hwk:IntKind.i64.wrap ((k':Int)+1)=((k'+1:Nat):Int):=by rw[mZ _ (by omega) (by omega)];omega
   have hx:=j9 (z:=dX) hD
   have hxe:=Hm (z:=dX) hjL
   obtain⟨x,hxx⟩:∃x,L[j]=x:=⟨_,rfl⟩
   rw[hxe,hxx] at hx;have hxm:x∈L:=by rw[← hxx];exact List.getElem_mem _
   have kc:=zD x hxm
   have L6:rW Tryz.prog 118 (some (.row 118 34 M.length (aI M))) ((j:Int).toNat * 34)=fB Tryz.prog 118 (cA x) 0:=by rw[NY (k:=34) q0 Fw aFA (by decide) (by decide),hx]
   have KT:=FC (q:=fun x=>!p x) hjL
   rw[hxx] at KT;have q4:(k':Int).toNat * 34+34≤M.length * 34:=by omega
   have W3:∀nF:St,K nF→K (St.jB nF s g (some (.row 118 34 M.length (aI (M.set k' x))))):=fun nF=>hK.row nF _ _ ⟨M.set k' x,by rw[List.length_set],by rw[List.length_set];exact hM,rfl,fun y hy=>(List.mem_or_eq_of_mem_set hy).elim (hMf y) fun e=>by rw[e];exact hFl x hxm⟩
   by_cases SJ:p x=true
   ·rw[SJ] at kc;simp only[SJ,Bool.not_true,Bool.false_eq_true,if_false,List.append_nil] at KT;apply Am (L.length-(j+1))
    ·simp only[ZG,seval,Bool.false_and,Prod.mk.injEq,Di,hI,NX,VF,VG,Fw,q0,L6,kc,hwj,s7,s7'];rfl
    ·exact⟨j+1,k',M,by simp only[E8,seval,hI,NX,VF,VG,s7,s7'],⟨fun y h h1 h2=>by
      have n7:(y=7∧h=st.aQ 7)=False:=eq_false (by rintro⟨rfl,rfl⟩;have:=hF.2 7;omega)
      have ng:(y=s∧h=g)=False:=eq_false h2
      simp only[E8,seval,n7,ng,if_false];exact hF.1 y h h1 h2,fun y=>by
      have:=hF.2 y
      simp only[E8,seval];split<;>(try subst_vars)<;>omega⟩,hM,hMf,by rw[KT];exact hT,by rw[KT];exact Xw,yG hD,by omega,by omega,rfl⟩
   ·have hp2:p x=false:=by simpa using SJ
    rw[hp2] at kc;simp only[hp2,Bool.not_false,if_true] at KT;apply Am (L.length-(j+1))
    ·simp only[ZG,seval,Bool.false_and,Prod.mk.injEq,Di,hI,NX,VF,VG,Fw,q0,q1,q2,q3,q4,L6,kc,hwj,hwk,s7,s7'];rfl
    ·exact⟨j+1,k'+1,M.set k' x,by simp only[E8,seval,hI,NX,VF,VG,s7,s7',W3,List.length_set,Int.toNat_natCast],⟨fun y h h1 h2=>by
      have n7:(y=7∧h=st.aQ 7)=False:=eq_false (by rintro⟨rfl,rfl⟩;have:=hF.2 7;omega)
      have ng:(y=s∧h=g)=False:=eq_false h2
      simp only[E8,seval,n7,ng,if_false];exact hF.1 y h h1 h2,fun y=>by
      have:=hF.2 y
      simp only[E8,seval];split<;>(try subst_vars)<;>omega⟩,by rw[List.length_set];exact hM,fun y hy=>(List.mem_or_eq_of_mem_set hy).elim (hMf y) fun e=>by rw[e];exact hFl x hxm,by rw[NV (by omega),hT,KT],by rw[KT,List.length_append,← Xw];rfl,by rw[set_drop (by omega)];exact yG hD,by omega,by omega,rfl⟩
  case start =>
   have ff:=Xv (p:=p) hk (by have:=hp;rwa [Hm hk] at this) (fun j h1 h2=>by have:=hj j h1;rwa [Hm h2] at this)
   exact⟨k+1,k,L,by simp only[E8,seval,bS,aT,NX,VF,VG,hKb,qA,hh],⟨fun y h h1 h2=>by simp only[E8,seval,aT],fun y=>by simp only[E8,seval,aX];exact Nat.le_refl _⟩,rfl,hFl,ff.symm,by rw[ff,List.length_take];omega,rfl,by omega,by omega,rfl⟩
  case rest =>
   rintro e st ⟨rfl,k',M,hI,hF,hM,hMf,hT,Xw⟩
   have Az:k'<M.length:=by omega
   have sv:∀(st:St) (lo:Operand),st.heap s g=some (.row 118 34 M.length (aI M))→st.ev lo=.v (.int .i64 k')→dA Tryz.prog st 51 (.own s g) (some lo) none=some (.vw s g (k' * 34) (M.length-k')):=fun st lo hh he=>by
    have h1:¬((k':Int)=M.length∧¬((k':Int)=0∧0<M.length)):=by omega
    have h2:(0:Int)≤k'∧(k':Int)≤M.length:=by omega
    have h3:((M.length:Int)-(k':Int)).toNat=M.length-k':=by omega
    simp only[dA,Rc,hh,he,if_neg h1,h2,h3,Int.le_refl,and_self,if_true,Int.toNat_natCast]
   obtain⟨Z,cl,hZ,hZl⟩:∃Z,(∀st:St,st.heap s g=some (.row 118 34 M.length (aI M))→sA Tryz.prog st 51 (.vw s g (k' * 34) (M.length-k'))=some (some (s,g,.row 118 34 M.length (aI (M.take k')++Z))))∧(∀c∈Z,Flat c)∧Z.length=(M.length-k') * 34:=by
    refine⟨(List.range (M.length-k')).flatMap fun _=>Ls.map AV.v,fun st hh=>?_,fun c hc=>?_, ?_⟩
    ·have hc:k' * 34+(M.length-k') * 34≤(aI M).length:=by rw[wZ];omega
     simp only[sA,Rc,W4,hh];rw[if_pos ⟨trivial,trivial,hc⟩];have hd:(aI M).drop (k' * 34+(M.length-k') * 34)=[]:=List.drop_of_length_le (by rw[wZ];omega)
     rw[hd,List.append_nil];congr 5
     exact congrArg (· ++ _) (wD (c:=cA) (sz:=34) eM M k')
    ·obtain⟨_,_,hc⟩:=List.mem_flatMap.1 hc
     obtain⟨x,_,rfl⟩:=List.mem_map.1 hc
     exact .v x
    ·have hv:(Ls.map AV.v).length=34:=by kernel_rfl
     generalize M.length-k'=m
     induction m with
     | zero=>rfl
     | succ m ih=>rw[List.range_succ,List.flatMap_append,List.length_append,ih];simp only[List.flatMap_cons,List.flatMap_nil,List.append_nil,hv];omega
   have sv2:∀(st:St) (hi:Operand),st.heap s g=some (.row 118 34 M.length (aI (M.take k')++Z))→st.ev hi=.v (.int .i64 k')→dA Tryz.prog st 51 (.own s g) none (some hi)=some (.vw s g 0 k'):=fun st hi hh he=>by
    have h1:¬((0:Int)=k'∧¬((0:Int)=0∧0<M.length)):=by omega
    have h2:(0:Int)≤k'∧(k':Int)≤M.length:=by omega
    simp only[dA,Rc,hh,he,if_neg h1,h2,Int.le_refl,and_self,if_true];simp
    intro h3 h4;rw[h4] at Az;simp at Az
   simp only[ZG,seval,Bool.false_and,Prod.mk.injEq,Di,hI,sv,cl,sv2,NZ];refine⟨_,wV (P:=Tryz.prog) (fn:=Tryz.f123) (r:=.tmp 4) (x:=.vw s g 0 k') (.inl rfl) rfl ?h1,by rw[Xw],⟨fun y h h1 h2=>?h2,fun y=>?h3⟩,Z,hZ, ?h4, ?h5⟩
   case h1=>rw[rH];simp only[bY,E8,seval]
   case h2 =>
    have ng:(y=s∧h=g)=False:=eq_false h2
    simp only[E8,seval,ng,if_false];exact hF.1 y h h1 h2
   case h3=>simp only[E8,seval];exact hF.2 y
   case h4=>rw[List.length_append,wZ,hZl,← Xw,hM,← Nat.add_mul];congr 1;omega
   case h5=>simp only[E8,seval,hT,hM]
theorem aG1 (L:List Block) (hn:(L.length:Int)<1000000) (p:Block→Bool) (F s g a b:Nat) (h7:s≠7) (K:St→Prop) (hK:KOk K s g 74 238 (fun n C=>∃M:List Block,n=M.length∧M.length=L.length∧C=aF M))
 (zD:∀x∈L,∀(st:St) (d:Option Nat),K st→aN (aB Tryz.prog) F ([.agg (aV x)]++[.ptr a b 0]) st d=some { dst:=d,val:=.v (.bool (p x))})
 (ZB:∀(st:St) (d:Option Nat),K st→st.heap s g=some (.row 74 238 L.length (aF L))→aN (aB Tryz.prog) 171 [.own s g,.rS F [.ptr a b 0]] st d=some { dst:=d,val:=.v (.int .i64 (uF (fun k=>p (gx dY L k)=true) L.length))})
 (Of:St) (qA:K Of) (hg:g<Of.aQ s) (hh:Of.heap s g=some (.row 74 238 L.length (aF L))) :
 ∃st',if L.filter (fun x=>!p x)=L then pR Tryz.prog 126 [.own s g,.rS F [.ptr a b 0]] Of=some (.own s g,st')∧Ao s g Of st'∧st'.heap s g=some (.row 74 238 L.length (aF L)) else
  pR Tryz.prog 126 [.own s g,.rS F [.ptr a b 0]] Of=some (.vw s g 0 (L.filter (fun x=>!p x)).length,st')∧Ao s g Of st'∧∃Z,(∀c∈Z,Flat c)∧((aF (L.filter (fun x=>!p x)))++Z).length=L.length * 238∧st'.heap s g=some (.row 74 238 L.length (aF (L.filter (fun x=>!p x))++Z)):=by
 have NX:=hK.put
 have VF:=hK.new
 have VG:=hK.set
 have hKb:=hK.back
 have s7:(s=7)=False:=eq_false h7
 have s7':(7=s)=False:=eq_false (fun e=>h7 e.symm)
 rcases qZ (fun k=>p (gx dY L k)=true) L.length with ⟨e,hj⟩|⟨k,hk,hp,hj,e⟩
 ·have hf:L.filter (fun x=>!p x)=L:=FB fun j h1 h2=>by have:=hj j h1;rwa [Hm h2] at this
  rw[e] at ZB;suffices h:∃r:AV × St,pR Tryz.prog 126 [.own s g,.rS F [.ptr a b 0]] Of=some r∧r.1=.own s g∧Ao s g Of r.2∧r.2.heap s g=some (.row 74 238 L.length (aF L)) by
   obtain⟨⟨x,st'⟩,h1,h2,h3,h4⟩:=h
   obtain rfl:x=.own s g:=h2
   exact⟨st',by rw[if_pos hf];exact⟨h1,h3,h4⟩⟩
  rw[Bj Tryz.prog Tryz.func126 rfl (by kernel_rfl)]
  simp only[ZG,seval,Bool.false_and,Prod.mk.injEq,Di,bS,aT,NX,VF,VG,hKb,qA,hh,ZB];refine⟨_,wV (P:=Tryz.prog) (fn:=Tryz.f126) (r:=.tmp 4) (x:=.own s g) (.inl rfl) rfl ?h1,rfl,⟨fun y h h1 h2=>?h2,fun y=>?h3⟩, ?h4⟩
  case h1=>rw[rH];simp only[bY,E8,seval]
  case h2=>simp only[E8,seval,aT,aX]
  case h3=>simp only[E8,seval,aT,aX];exact Nat.le_refl _
  case h4=>simp only[E8,seval,aT,aX,hh]
 ·have bA:=j8 (p:=p) hk (by have:=hp;rwa [Hm hk] at this)
  have hf:¬L.filter (fun x=>!p x)=L:=fun e=>by rw[e] at bA;omega
  rw[e] at ZB;suffices h:∃r:AV × St,pR Tryz.prog 126 [.own s g,.rS F [.ptr a b 0]] Of=some r∧r.1=.vw s g 0 (L.filter (fun x=>!p x)).length∧Ao s g Of r.2∧∃Z,(∀c∈Z,Flat c)∧((aF (L.filter (fun x=>!p x)))++Z).length=L.length * 238∧r.2.heap s g=some (.row 74 238 L.length (aF (L.filter (fun x=>!p x))++Z)) by
   obtain⟨⟨x,st'⟩,h1,h2,h3⟩:=h
   obtain rfl:x=.vw s g 0 (L.filter (fun x=>!p x)).length:=h2
   exact⟨st',by rw[if_neg hf];exact⟨h1,h3⟩⟩
  have E0:¬(k:Int)=-1:=by omega
  have hw0:IntKind.i64.wrap ((k:Int)+1)=((k+1:Nat):Int):=by rw[mZ _ (by omega) (by omega)];omega
  rw[Bj Tryz.prog Tryz.func126 rfl (by kernel_rfl)]
  simp only[ZG,seval,Bool.false_and,Prod.mk.injEq,Di,bS,aT,NX,VF,VG,hKb,qA,hh,ZB,bf E0,hw0];refine jH (fun m st=>∃(j k':Nat) (M:List Block),((st.env 0=.own s g∧st.env 1=.rS F [.ptr a b 0]∧st.env 5=.v (.int .i64 (k':Nat))∧st.heap s g=some (.row 74 238 M.length (aF M))∧K st)∧st.env 6=.v (.int .i64 (j:Nat)))∧Ao s g Of st∧M.length=L.length∧M.take k'=(L.take j).filter (fun x=>!p x)∧k'=((L.take j).filter (fun x=>!p x)).length∧M.drop j=L.drop j∧k'<j∧j≤L.length∧m=L.length-j)
   (fun e st=>e=.exit 0∧∃(k':Nat) (M:List Block),((st.env 0=.own s g∧st.env 1=.rS F [.ptr a b 0]∧st.env 5=.v (.int .i64 (k':Nat))∧st.heap s g=some (.row 74 238 M.length (aF M))∧K st))∧Ao s g Of st∧M.length=L.length∧M.take k'=L.filter (fun x=>!p x)∧k'=(L.filter (fun x=>!p x)).length) (L.length-(k+1)) ?step ?start ?rest
  case step =>
   rintro m st ⟨j,k',M,hI,hF,hM,hT,Xw,hD,hkj,hj',hm⟩
   by_cases Fw:(j:Int)<M.length
   case neg =>
    have hjn:j=L.length:=by omega
    subst hjn;rw[List.take_length] at hT Xw
    apply AX (.exit 0)
    ·simp only[ZG,seval,Bool.false_and,Prod.mk.injEq,Di,hI,Fw];rfl
    ·exact⟨rfl,k',M,by simp only[E8,seval,NX,hI],⟨fun y h h1 h2=>by simp only[E8,seval];exact hF.1 y h h1 h2,fun y=>by simp only[E8,seval];exact hF.2 y⟩,hM,hT,Xw⟩
   have hjL:j<L.length:=by omega
   have q0:(0:Int)≤j:=by omega
   have q1:(0:Int)≤k':=by omega
   have q2:(k':Int)<M.length:=by omega
   have q3:(k':Int).toNat<M.length:=by omega
   have hwj:IntKind.i64.wrap ((j:Int)+1)=((j+1:Nat):Int):=by rw[mZ _ (by omega) (by omega)];omega
   have hwk:IntKind.i64.wrap ((k':Int)+1)=((k'+1:Nat):Int):=by rw[mZ _ (by omega) (by omega)];omega
   have hx:=j9 (z:=dY) hD
   have hxe:=Hm (z:=dY) hjL
   obtain⟨x,hxx⟩:∃x,L[j]=x:=⟨_,rfl⟩
   rw[hxe,hxx] at hx;have hxm:x∈L:=by rw[← hxx];exact List.getElem_mem _
   have kc:=zD x hxm
   have L6:rW Tryz.prog 74 (some (.row 74 238 M.length (aF M))) ((j:Int).toNat * 238)=fB Tryz.prog 74 (aV x) 0:=by rw[wW (k:=238) q0 Fw NB (by decide) (by decide),hx]
   have KT:=FC (q:=fun x=>!p x) hjL
   rw[hxx] at KT;have q4:(k':Int).toNat * 238+238≤M.length * 238:=by omega
   have W3:∀nF:St,K nF→K (St.jB nF s g (some (.row 74 238 M.length (aF (M.set k' x))))):=fun nF=>hK.row nF _ _ ⟨M.set k' x,by rw[List.length_set],by rw[List.length_set];exact hM,rfl⟩
   by_cases SJ:p x=true
   ·rw[SJ] at kc;simp only[SJ,Bool.not_true,Bool.false_eq_true,if_false,List.append_nil] at KT;apply Am (L.length-(j+1))
    ·simp only[ZG,seval,Bool.false_and,Prod.mk.injEq,Di,hI,NX,VF,VG,Fw,q0,L6,kc,hwj,s7,s7'];rfl
    ·exact⟨j+1,k',M,by simp only[E8,seval,hI,NX,VF,VG,s7,s7'],⟨fun y h h1 h2=>by
      have n7:(y=7∧h=st.aQ 7)=False:=eq_false (by rintro⟨rfl,rfl⟩;have:=hF.2 7;omega)
      have ng:(y=s∧h=g)=False:=eq_false h2
      simp only[E8,seval,n7,ng,if_false];exact hF.1 y h h1 h2,fun y=>by
      have:=hF.2 y
      simp only[E8,seval];split<;>(try subst_vars)<;>omega⟩,hM,by rw[KT];exact hT,by rw[KT];exact Xw,yG hD,by omega,by omega,rfl⟩
   ·have hp2:p x=false:=by simpa using SJ
    rw[hp2] at kc;simp only[hp2,Bool.not_false,if_true] at KT;apply Am (L.length-(j+1))
    ·simp only[ZG,seval,Bool.false_and,Prod.mk.injEq,Di,hI,NX,VF,VG,Fw,q0,q1,q2,q3,q4,L6,kc,hwj,hwk,s7,s7'];rfl
    ·exact⟨j+1,k'+1,M.set k' x,by simp only[E8,seval,hI,NX,VF,VG,s7,s7',W3,List.length_set,Int.toNat_natCast],⟨fun y h h1 h2=>by
      have n7:(y=7∧h=st.aQ 7)=False:=eq_false (by rintro⟨rfl,rfl⟩;have:=hF.2 7;omega)
      have ng:(y=s∧h=g)=False:=eq_false h2
      simp only[E8,seval,n7,ng,if_false];exact hF.1 y h h1 h2,fun y=>by
      have:=hF.2 y
      simp only[E8,seval];split<;>(try subst_vars)<;>omega⟩,by rw[List.length_set];exact hM,by rw[NV (by omega),hT,KT],by rw[KT,List.length_append,← Xw];rfl,by rw[set_drop (by omega)];exact yG hD,by omega,by omega,rfl⟩
  case start =>
   have ff:=Xv (p:=p) hk (by have:=hp;rwa [Hm hk] at this) (fun j h1 h2=>by have:=hj j h1;rwa [Hm h2] at this)
   exact⟨k+1,k,L,by simp only[E8,seval,bS,aT,NX,VF,VG,hKb,qA,hh],⟨fun y h h1 h2=>by simp only[E8,seval,aT],fun y=>by simp only[E8,seval,aX];exact Nat.le_refl _⟩,rfl,ff.symm,by rw[ff,List.length_take];omega,rfl,by omega,by omega,rfl⟩
  case rest =>
   rintro e st ⟨rfl,k',M,hI,hF,hM,hT,Xw⟩
   have Az:k'<M.length:=by omega
   have sv:∀(st:St) (lo:Operand),st.heap s g=some (.row 74 238 M.length (aF M))→st.ev lo=.v (.int .i64 k')→dA Tryz.prog st 45 (.own s g) (some lo) none=some (.vw s g (k' * 238) (M.length-k')):=fun st lo hh he=>by
    have h1:¬((k':Int)=M.length∧¬((k':Int)=0∧0<M.length)):=by omega
    have h2:(0:Int)≤k'∧(k':Int)≤M.length:=by omega
    have h3:((M.length:Int)-(k':Int)).toNat=M.length-k':=by omega
    simp only[dA,nK,hh,he,if_neg h1,h2,h3,Int.le_refl,and_self,if_true,Int.toNat_natCast]
   obtain⟨Z,cl,hZ,hZl⟩:∃Z,(∀st:St,st.heap s g=some (.row 74 238 M.length (aF M))→sA Tryz.prog st 45 (.vw s g (k' * 238) (M.length-k'))=some (some (s,g,.row 74 238 M.length (aF (M.take k')++Z))))∧(∀c∈Z,Flat c)∧Z.length=(M.length-k') * 238:=by
    refine⟨(List.range (M.length-k')).flatMap fun _=>Hn.map AV.v,fun st hh=>?_,fun c hc=>?_, ?_⟩
    ·have hc:k' * 238+(M.length-k') * 238≤(aF M).length:=by rw[oW];omega
     simp only[sA,nK,aCS,hh];rw[if_pos ⟨trivial,trivial,hc⟩];have hd:(aF M).drop (k' * 238+(M.length-k') * 238)=[]:=List.drop_of_length_le (by rw[oW];omega)
     rw[hd,List.append_nil];congr 5
     exact congrArg (· ++ _) (wD (c:=aV) (sz:=238) bR M k')
    ·obtain⟨_,_,hc⟩:=List.mem_flatMap.1 hc
     obtain⟨x,_,rfl⟩:=List.mem_map.1 hc
     exact .v x
    ·have hv:(Hn.map AV.v).length=238:=by kernel_rfl
     generalize M.length-k'=m
     induction m with
     | zero=>rfl
     | succ m ih=>rw[List.range_succ,List.flatMap_append,List.length_append,ih];simp only[List.flatMap_cons,List.flatMap_nil,List.append_nil,hv];omega
   have sv2:∀(st:St) (hi:Operand),st.heap s g=some (.row 74 238 M.length (aF (M.take k')++Z))→st.ev hi=.v (.int .i64 k')→dA Tryz.prog st 45 (.own s g) none (some hi)=some (.vw s g 0 k'):=fun st hi hh he=>by
    have h1:¬((0:Int)=k'∧¬((0:Int)=0∧0<M.length)):=by omega
    have h2:(0:Int)≤k'∧(k':Int)≤M.length:=by omega
    simp only[dA,nK,hh,he,if_neg h1,h2,Int.le_refl,and_self,if_true];simp
    intro h3 h4;rw[h4] at Az;simp at Az
   simp only[ZG,seval,Bool.false_and,Prod.mk.injEq,Di,hI,sv,cl,sv2,NZ];refine⟨_,wV (P:=Tryz.prog) (fn:=Tryz.f126) (r:=.tmp 4) (x:=.vw s g 0 k') (.inl rfl) rfl ?h1,by rw[Xw],⟨fun y h h1 h2=>?h2,fun y=>?h3⟩,Z,hZ, ?h4, ?h5⟩
   case h1=>rw[rH];simp only[bY,E8,seval]
   case h2 =>
    have ng:(y=s∧h=g)=False:=eq_false h2
    simp only[E8,seval,ng,if_false];exact hF.1 y h h1 h2
   case h3=>simp only[E8,seval];exact hF.2 y
   case h4=>rw[List.length_append,oW,hZl,← Xw,hM,← Nat.add_mul];congr 1;omega
   case h5=>simp only[E8,seval,hT,hM]
theorem OA {st:St} {s g e sz n k:Nat} {cs Z:List AV} (h:st.heap s g=some (.row e sz n (cs++Z))) (hc:cs.length=k * sz) (hn:(cs++Z).length=n * sz) (hz:∀c∈cs,Flat c) (hZ:∀c∈Z,Flat c) (VH:0<sz):cN st (.vw s g 0 k)=some (.sl k cs):=by
 have hnf:¬Flat (.vw s g 0 k):=by intro h;cases h
 have hf:(∀c∈cs++Z,Flat c)∧0+k * sz≤(cs++Z).length:=⟨fun c hc=>(List.mem_append.1 hc).elim (hz c) (hZ c),by rw[List.length_append];omega⟩
 unfold cN;rw[if_neg hnf];simp only[h];rw[if_pos hf,List.drop_zero,← hc,List.take_left]
theorem aG2 (L:List Table) (hn:(L.length:Int)<1000000) (hFl:∀y∈L,Flat y.iP) (J:dP) (s g a b:Nat) (h7:s≠7) (ha:a≠7) (hab:¬(a=s∧b=g)):∃(X:AV) (G:St→St),(X.cells=[X]∧X.jD=true)∧∀st:St,st.heap a b=some (.cells (aY J))→st.heap s g=some (.row 118 34 L.length (aI L))→g<st.aQ s →
 pR Tryz.prog 123 [.own s g,.rS 124 [.ptr a b 0]] st=some (X,G st)∧Ao s g st (G st)∧∃R,(G st).heap s g=some R∧∀nF:St,nF.heap s g=some R→cN nF X=some (ov aI (some (L.filter fun x=>!(fun x=>decide (x.ck.aG<J.aG)) x))):=by
 obtain⟨p,hp⟩:∃p:Table→Bool,p=fun x=>decide (x.ck.aG<J.aG):=⟨_,rfl⟩
 have a7:(a=7)=False:=eq_false ha
 have aG3:(a=s∧b=g)=False:=eq_false hab
 have key:∀st:St,∃st',st.heap a b=some (.cells (aY J))→st.heap s g=some (.row 118 34 L.length (aI L))→g<st.aQ s →
  (if L.filter (fun x=>!p x)=L then pR Tryz.prog 123 [.own s g,.rS 124 [.ptr a b 0]] st=some (.own s g,st')∧Ao s g st st'∧st'.heap s g=some (.row 118 34 L.length (aI L)) else
   pR Tryz.prog 123 [.own s g,.rS 124 [.ptr a b 0]] st=some (.vw s g 0 (L.filter (fun x=>!p x)).length,st')∧Ao s g st st'∧∃Z,(∀c∈Z,Flat c)∧((aI (L.filter (fun x=>!p x)))++Z).length=L.length * 34∧st'.heap s g=some (.row 118 34 L.length (aI (L.filter (fun x=>!p x))++Z))):=by
  intro st;by_cases hy:st.heap a b=some (.cells (aY J))∧st.heap s g=some (.row 118 34 L.length (aI L))∧g<st.aQ s
  case neg=>exact⟨st,fun h1 h2 h3=>absurd ⟨h1,h2,h3⟩ hy⟩
  have eV:∀(nF:St),Ss nF (some (.cells (aY J))) 0=some (.ip (aY J) 0):=fun nF=>sS nF (bM J) 0
  have fI:Flat (.ip (aY J) 0):=.ip _ _ (bM J)
  have kk:KOk (fun nF=>nF.heap a b=some (.cells (aY J))) s g 118 34 (fun n C=>∃M:List Table,n=M.length∧M.length=L.length∧C=aI M∧(∀y∈M,Flat y.iP)) :=
   ⟨fun nF d v=>by simp only[Xx],fun nF x=>by simp only[Xy,a7,false_and,if_false],fun nF h x=>by simp only[Dj,a7,false_and,if_false],fun x nF=>by simp only[aT],fun nF n C _ h=>by
    show (St.jB nF s g _).heap a b=_
    simp only[Dj,aG3,if_false];exact h⟩
  obtain⟨st',h⟩:=aGY L hn hFl p 124 s g a b h7 (fun nF=>nF.heap a b=some (.cells (aY J))) kk
   (fun x hx nF d hk=>by
    have hk:nF.heap a b=some (.cells (aY J)):=hk
    rw[jS,List.singleton_append,List.map_cons,List.map_cons,List.map_nil,eB ((iE _).2 (hFl x hx)),OB hk (bM J),bN,bN,fR];have h:=aM0 x J
    rw[hp];exact Qi h)
   (fun nF d hk hh=>by
    have hk:nF.heap a b=some (.cells (aY J)):=hk
    rw[jS,List.map_cons,List.map_cons,List.map_nil,Xz hh (jV _ hFl),oF,hk,sS nF (bM J) 0,Option.map_some,bN,bN,fR];have h:=aFy (some L) hn 124 [.ip (aY J) 0] p (fun x hx st d=>by rw[hp];exact bG (bE ((iE _).2 (hFl x hx)) fI) (aM0 x J) (.v _))
    exact Su h)
   st hy.1 hy.2.2 hy.2.1
  exact⟨st',fun _ _ _=>h⟩
 rw[← hp];by_cases hf:L.filter (fun x=>!p x)=L
 ·refine⟨.own s g,fun st=>Classical.choose (key st),⟨rfl,rfl⟩,fun st h1 h2 h3=>?_⟩
  have h:=Classical.choose_spec (key st) h1 h2 h3
  rw[if_pos hf] at h;refine⟨h.1,h.2.1,_,h.2.2,fun nF h=>?_⟩
  rw[hf];exact Go.Ab.kA h (jV _ hFl)
 ·refine⟨.vw s g 0 (L.filter (fun x=>!p x)).length,fun st=>Classical.choose (key st),⟨rfl,rfl⟩,fun st h1 h2 h3=>?_⟩
  have h:=Classical.choose_spec (key st) h1 h2 h3
  rw[if_neg hf] at h;obtain⟨e1,e2,Z,hZ,hl,e3⟩:=h
  exact⟨e1,e2,_,e3,fun nF h=>OA h (wZ _) hl (jV _ (fun y hy=>hFl y (List.mem_filter.1 hy).1)) hZ (by decide)⟩
theorem aG4 (L:List Block) (hn:(L.length:Int)<1000000) (J:Int) (s g a b:Nat) (h7:s≠7) (ha:a≠7) (hab:¬(a=s∧b=g)):∃(X:AV) (G:St→St),(X.cells=[X]∧X.jD=true)∧∀st:St,st.heap a b=some (.cells (lI J))→st.heap s g=some (.row 74 238 L.length (aF L))→g<st.aQ s →
 pR Tryz.prog 126 [.own s g,.rS 127 [.ptr a b 0]] st=some (X,G st)∧Ao s g st (G st)∧∃R,(G st).heap s g=some R∧∀nF:St,nF.heap s g=some R→cN nF X=some (ov aF (some (L.filter fun x=>!(fun x=>decide (x.slot≤J)) x))):=by
 obtain⟨p,hp⟩:∃p:Block→Bool,p=fun x=>decide (x.slot≤J):=⟨_,rfl⟩
 have a7:(a=7)=False:=eq_false ha
 have aG3:(a=s∧b=g)=False:=eq_false hab
 have key:∀st:St,∃st',st.heap a b=some (.cells (lI J))→st.heap s g=some (.row 74 238 L.length (aF L))→g<st.aQ s →
  (if L.filter (fun x=>!p x)=L then pR Tryz.prog 126 [.own s g,.rS 127 [.ptr a b 0]] st=some (.own s g,st')∧Ao s g st st'∧st'.heap s g=some (.row 74 238 L.length (aF L)) else
   pR Tryz.prog 126 [.own s g,.rS 127 [.ptr a b 0]] st=some (.vw s g 0 (L.filter (fun x=>!p x)).length,st')∧Ao s g st st'∧∃Z,(∀c∈Z,Flat c)∧((aF (L.filter (fun x=>!p x)))++Z).length=L.length * 238∧st'.heap s g=some (.row 74 238 L.length (aF (L.filter (fun x=>!p x))++Z))):=by
  intro st;by_cases hy:st.heap a b=some (.cells (lI J))∧st.heap s g=some (.row 74 238 L.length (aF L))∧g<st.aQ s
  case neg=>exact⟨st,fun h1 h2 h3=>absurd ⟨h1,h2,h3⟩ hy⟩
  have eV:∀(nF:St),Ss nF (some (.cells (lI J))) 0=some (.ip (lI J) 0):=fun nF=>sS nF (eC J) 0
  have fI:Flat (.ip (lI J) 0):=.ip _ _ (eC J)
  have kk:KOk (fun nF=>nF.heap a b=some (.cells (lI J))) s g 74 238 (fun n C=>∃M:List Block,n=M.length∧M.length=L.length∧C=aF M) :=
   ⟨fun nF d v=>by simp only[Xx],fun nF x=>by simp only[Xy,a7,false_and,if_false],fun nF h x=>by simp only[Dj,a7,false_and,if_false],fun x nF=>by simp only[aT],fun nF n C _ h=>by
    show (St.jB nF s g _).heap a b=_
    simp only[Dj,aG3,if_false];exact h⟩
  obtain⟨st',h⟩:=aG1 L hn p 127 s g a b h7 (fun nF=>nF.heap a b=some (.cells (lI J))) kk
   (fun x hx nF d hk=>by
    have hk:nF.heap a b=some (.cells (lI J)):=hk
    rw[jS,List.singleton_append,List.map_cons,List.map_cons,List.map_nil,eB (tF x),OB hk (eC J),bN,bN,fR];have h:=aM2 x J
    rw[hp];exact Qi h)
   (fun nF d hk hh=>by
    have hk:nF.heap a b=some (.cells (lI J)):=hk
    rw[jS,List.map_cons,List.map_cons,List.map_nil,Xz hh (lA _),oF,hk,sS nF (eC J) 0,Option.map_some,bN,bN,fR];have h:=aFz (some L) hn 127 [.ip (lI J) 0] p (fun x hx st d=>by rw[hp];exact bG (bE (tF x) fI) (aM2 x J) (.v _))
    exact Su h)
   st hy.1 hy.2.2 hy.2.1
  exact⟨st',fun _ _ _=>h⟩
 rw[← hp];by_cases hf:L.filter (fun x=>!p x)=L
 ·refine⟨.own s g,fun st=>Classical.choose (key st),⟨rfl,rfl⟩,fun st h1 h2 h3=>?_⟩
  have h:=Classical.choose_spec (key st) h1 h2 h3
  rw[if_pos hf] at h;refine⟨h.1,h.2.1,_,h.2.2,fun nF h=>?_⟩
  rw[hf];exact Go.Ab.kA h (lA _)
 ·refine⟨.vw s g 0 (L.filter (fun x=>!p x)).length,fun st=>Classical.choose (key st),⟨rfl,rfl⟩,fun st h1 h2 h3=>?_⟩
  have h:=Classical.choose_spec (key st) h1 h2 h3
  rw[if_neg hf] at h;obtain⟨e1,e2,Z,hZ,hl,e3⟩:=h
  exact⟨e1,e2,_,e3,fun nF h=>OA h (oW _) hl (lA _) hZ (by decide)⟩
theorem aCT (J:Int) (a b:Nat):∃G:St→St,∀st:St,st.heap a b=some (.cells (lI J)) →
 pR Tryz.prog 126 [.v (.slice none 0 0),.rS 127 [.ptr a b 0]] st=some (.v (.slice none 0 0),G st)∧Fi st (G st):=by
 have key:∀st:St,∃st',st.heap a b=some (.cells (lI J))→pR Tryz.prog 126 [.v (.slice none 0 0),.rS 127 [.ptr a b 0]] st=some (.v (.slice none 0 0),st')∧Fi st st':=by
  intro st;by_cases hk:st.heap a b=some (.cells (lI J))
  case neg=>exact⟨st,fun h=>absurd h hk⟩
  have fI:Flat (.ip (lI J) 0):=.ip _ _ (eC J)
  have ZB:∀(nF:St) (d:Option Nat),nF.heap a b=some (.cells (lI J))→aN (aB Tryz.prog) 171 [.v (.slice none 0 0),.rS 127 [.ptr a b 0]] nF d=some { dst:=d,val:=.v (.int .i64 (-1))}:=fun nF d hk=>by
   rw[jS,List.map_cons,List.map_cons,List.map_nil,Lf,oF,hk,sS nF (eC J) 0,Option.map_some,bN,bN,fR];have h:=aFz none (by decide) 127 [.ip (lI J) 0] (fun x=>decide (x.slot≤J)) (fun x hx st d=>by simp[ol] at hx)
   exact Su h
  rw[Bj Tryz.prog Tryz.func126 rfl (by kernel_rfl)]
  simp only[ZG,seval,Bool.false_and,Prod.mk.injEq,Di,bS,aT,hk,ZB];exact⟨_,fun _=>⟨wV (P:=Tryz.prog) (fn:=Tryz.f126) (r:=.tmp 4) (x:=.v (.slice none 0 0)) (.inl rfl) rfl (by rw[rH];simp only[bY,E8,seval]),fun y h h1=>by simp only[E8,seval,aT],fun y=>by simp only[E8,seval,aX];exact Nat.le_refl _⟩⟩
 exact⟨fun st=>Classical.choose (key st),fun st h=>Classical.choose_spec (key st) h⟩
theorem Ya {P:Program} {g:Nat} {args:List AV} {st:St} {β:Type} {k:AV × St→Option β} {R:β→Prop} (X:AV) (Pre:St→Prop) (Q:St→St→Prop) (h:∀st,Pre st→∃st',pR P g args st=some (X,st')∧Q st st') (hp:Pre st)
 (rest:∀st',Q st st'→∃r,k (X,st')=some r∧R r):∃r,cS (pR P g args st) k=some r∧R r:=by
 obtain⟨st',h1,h2⟩:=h st hp
 rw[h1];exact rest st' h2
theorem Yb:aC 0 4 (some 3)=[]∧aC 1 4 (some 13)=[]∧aC 2 13 (some 16)=[]∧aC 3 2 (some 23)=[]∧aC 4 2 (some 25)=[]∧aC 5 8 (some 26)=[(1,4)]∧aC 7 5 (some 37)=[]∧aC 8 2 (some 42)=[]∧aC 9 14 (some 44)=[]∧aC 10 6 (some 56)=[]∧aC 11 3 (some 62)=[]∧aC 12 12 (some 65)=[]∧aC 14 2 (some 80)=[]:=⟨rfl,rfl,rfl,rfl,rfl,rfl,rfl,rfl,rfl,rfl,rfl,rfl,rfl⟩
theorem OC:aC 6 6 (some 32)=[]∧aC 13 8 (some 73)=[]:=⟨rfl,rfl⟩
theorem VI {st:St} {s:aL} {v:SV} (hs:SD s v) (hh:∀j,j<nE v→st.heap 14 j=(Ju v)[j]?) {f:jY} {bo:cJ} {O N T O' N' T':AV} (hO:cN st O=some O') (hN:cN st N=some N') (hT:cN st T=some T') :
 Ua st (aA { Oc s v 14 0 with aU:=f,eR:=bo,tables:=T,tree:=⟨N⟩,cD:={ (Oc s v 14 0).cD with bK:=O }})=some (aA { s with aU:=f,eR:=bo,tables:=T',tree:=⟨N'⟩,cD:={ s.cD with bK:=O' }}):=by
 have cB:∀x,v.B=some x→0<nB v:=fun x h=>by simp[nB,h,rl]
 have cL:∀x,v.L=some x→nB v<nL v:=fun x h=>by simp[nL,h,rl]
 have cQ:∀x,v.Q=some x→nL v<nQ v:=fun x h=>by simp[nQ,h,rl]
 have cE:∀x,v.E=some x→nQ v<nE v:=fun x h=>by simp[nE,h,rl]
 have l1:nB v≤nL v:=by unfold nL;omega
 have l2:nL v≤nQ v:=by unfold nQ;omega
 have l3:nQ v≤nE v:=by unfold nE;omega
 rw[gG];simp only[Oc,SU,Nat.zero_add];rw[mK (e:=23) (sz:=1) (c:=bJ) (fun x h=>by have:=cB x h;rw[hh _ (by omega),aMN v x h]) (fun x _=>iF x),cK,
  mK (e:=100) (sz:=34) (c:=dC) (fun x h=>by have:=cL x h;rw[hh _ (by omega),aMO v x h]) (fun x _=>mY x),cK,
  mK (e:=3) (sz:=1) (c:=aK) (fun x h=>by have:=cQ x h;rw[hh _ (by omega),aMP v x h]) (fun x _=>gF x),cK,
  mK (e:=87) (sz:=67) (c:=dN) (fun x h=>by have:=cE x h;rw[hh _ (by omega),aMQ v x h]) (fun x h=>sW x fun y m=>(hs.eV y (by rw[h];exact m)).fl),cK,hO,cK,hN,cK,hT,cK,← hs.iP,← hs.eA,← hs.gW,← hs.early]
noncomputable def BN (s:aL) (v:SV) (c1 c2:dP):aL :=
 if jW s v (rK s c1) (tQ s c2) then s else
 if tQ s c2=s.aU.fin then { s with aU:=⟨rK s c1,tQ s c2⟩,tables:=ov aI (v.T.map fun l=>rV l (rK s c1).aG)} else
 { s with aU:=⟨rK s c1,tQ s c2⟩,tables:=ov aI (v.T.map fun l=>rV l (rK s c1).aG),
          tree:=⟨.sl (jT v.ns (aM v.ns (tQ s c2).root) v.ns.length).1.length (bZ (jT v.ns (aM v.ns (tQ s c2).root) v.ns.length).1)⟩,
          eR:=if aM (jT v.ns (aM v.ns (tQ s c2).root) v.ns.length).1 s.eR<0 then dR else s.eR,
          cD:={ s.cD with bK:=ov aF (v.O.map fun l=>l.filter fun b=>decide ((vO s (tQ s c2).aG).1<b.slot))} }
theorem c60 {s:aL} {v:SV} (hs:SD s v) (hu:gM v.ns) (hr:(nd v.ns 0).up<0) (hp:1≤s.cFg.kE∧s.cFg.kE≤64) (hx:Rg s.now) (hj:Rg s.aU.gJ.aG) (Sz:Rg s.aU.fin.aG) (gR:NEv v) (hB:v.B≠some []) (hL:v.L≠some []) (ht:0<v.ns.length) (c1 c2:dP) (h1:Rg c1.aG) (h2:Rg c2.aG) :
 aB Tryz.prog 60 [.agg (aA s),.agg (aY c1),.agg (aY c2)]=some (.agg (aA (BN s v c1 c2))):=by
 have k109':=aSh hs gR hB hL ht
 have Rd:=k58 hs hu hp hx hj Sz c1 c2 h1 h2
 have gO:nO v+1≤nS v:=by
  have:=(List.getElem?_eq_some_iff.1 (aGT v)).1
  unfold nS;omega
 have gE:nE v≤nO v:=by unfold nO;omega
 rw[cG Tryz.func60 rfl aSz (by kernel_rfl) rfl]
 unfold BN;unfold Jr at Rd
 by_cases hb:jW s v (rK s c1) (tQ s c2)
 ·rw[if_pos hb] at Rd ⊢
  simp only[ZG,seval,Bool.false_and,Prod.mk.injEq,Yb,k109',Rd,NS,NW,dM];refine eG rfl (by simp only[E8,seval]<;>rfl) (cs:=aA (Oc s v 14 0)) (by simp only[Z8,seval,NW]<;>rfl) ?_
  rw[bQ,aGV hs (d:=14) (c:=0) (fun j hj=>by
   rw[Nat.zero_add];simp only[E8,seval,NW,true_and,Nat.zero_le,Nat.sub_zero,W0])]
  rfl
 rw[if_neg hb] at Rd ⊢
 have oS:=(ZY hp hx (by unfold rK;split<;>assumption) (by unfold tQ;split<;>assumption)).2 hb
 obtain⟨J,eJ⟩:∃J,rK s c1=J:=⟨_,rfl⟩
 obtain⟨F,eF⟩:∃F,tQ s c2=F:=⟨_,rfl⟩
 have rF:Rg F.aG:=by rw[← eF];unfold tQ;split<;>assumption
 rw[eJ,eF] at Rd oS ⊢
 obtain⟨⟨f1,f2,f3,f4⟩,_,_,_,_,hT0⟩:=oS
 cases hvT:v.T with
 | none=>rw[hvT] at hT0;exact absurd hT0 (by show ¬(0:Int)≤-1;omega)
 | some LT =>
 have hB':=fun y hy=>(hs.tB y hy).fl
 rw[hvT,Vi] at hB'
 have nT:=hs.nT
 rw[hvT,Vi] at nT;have lT:nO v+1<nS v:=(List.getElem?_eq_some_iff.1 (aGU v LT hvT)).1
 obtain⟨X,G,⟨hXc,hXs⟩,hG⟩:=aG2 LT nT hB' J 14 (nO v+1) 8 0 (by decide) (by decide) (by rintro⟨h,_⟩;omega)
 have eX:(LT.filter fun x=>!(fun x:Table=>decide (x.ck.aG<J.aG)) x)=rV LT J.aG:=by
  unfold rV;congr 1
  funext x
  simp only[← decide_not,Int.not_lt]
 simp only[eX] at hG;have hT1:(Oc s v 14 0).tables=.own 14 (nO v+1):=by simp only[Oc,SU,hvT,HJ,Nat.zero_add]
 refine iN ?_
 simp only[ZG,seval,Bool.false_and,Prod.mk.injEq,Yb,k109',Rd,NS,NW,dM,hT1];refine Ya X (fun st=>st.heap 8 0=some (.cells (aY J))∧st.heap 14 (nO v+1)=some (.row 118 34 LT.length (aI LT))∧nO v+1<st.aQ 14) (fun st st'=>Ao 14 (nO v+1) st st'∧∃R,st'.heap 14 (nO v+1)=some R∧∀nF:St,nF.heap 14 (nO v+1)=some R→cN nF X=some (ov aI (some (rV LT J.aG)))) (fun st h=>⟨_,hG st h.1 h.2.1 h.2.2⟩) ⟨?p1, ?p2, ?p3⟩ ?rest
 case p1=>simp only[E8,seval,NW]<;>rfl
 case p2 =>
  simp only[E8,seval,NW,Nat.zero_le,Nat.sub_zero,W0];exact aGU v LT hvT
 case p3=>simp only[E8,seval,NW];exact lT
 case rest =>
  rintro st' ⟨hF,R,hR,hRX⟩
  have e3:st'.heap 3 0=some (.cells (aA s)):=(hF.1 3 0 (by simp only[E8,seval,NW]<;>omega) (by omega)).trans (by simp only[E8,seval,NW]<;>rfl)
  have e6:st'.heap 6 0=some (.cells (aA fZ)):=(hF.1 6 0 (by simp only[E8,seval,NW]<;>omega) (by omega)).trans (by simp only[E8,seval,NW]<;>rfl)
  have e7:st'.heap 7 0=some (.cells (aA { Oc s v 14 0 with aU:=⟨J,F⟩,tables:=.own 14 (nO v+1)})):=(hF.1 7 0 (by simp only[E8,seval,NW]<;>omega) (by omega)).trans (by simp only[E8,seval,NW]<;>rfl)
  have e9:st'.heap 9 0=some (.cells (aY F)):=(hF.1 9 0 (by simp only[E8,seval,NW]<;>omega) (by omega)).trans (by simp only[E8,seval,NW]<;>rfl)
  have er:∀j,j<nS v→j≠nO v+1→st'.heap 14 j=(Ju v)[j]?:=fun j hj gR=>(hF.1 14 j (by simp only[E8,seval,NW];exact hj) (by omega)).trans (by simp only[E8,seval,NW,Nat.zero_le,Nat.sub_zero,W0])
  have g6:0<st'.aQ 6:=Nat.lt_of_lt_of_le (by simp only[E8,seval,NW]<;>omega) (hF.2 6)
  have g7:0<st'.aQ 7:=Nat.lt_of_lt_of_le (by simp only[E8,seval,NW]<;>omega) (hF.2 7)
  have g14:nS v≤st'.aQ 14:=Nat.le_trans (by simp only[E8,seval,NW]<;>exact Nat.le_refl _) (hF.2 14)
  have xO:∀nF:St,(∀j,j<nS v→j≠nO v+1→nF.heap 14 j=(Ju v)[j]?)→cN nF (rv 14 (0+nE v) v.O)=some (ov aF v.O):=fun nF h=>by
   rw[Nat.zero_add];exact mK (e:=74) (sz:=238) (c:=aF) (fun x hx=>by have:nE v<nO v:=(by simp[nO,hx,rl]);rw[h _ (by omega) (by omega),aGS v x hx]) (fun x _=>lA x)
  have xN:∀nF:St,(∀j,j<nS v→j≠nO v+1→nF.heap 14 j=(Ju v)[j]?)→cN nF (.own 14 (0+nO v))=some (ov bZ (some v.ns)):=fun nF h=>by
   rw[Nat.zero_add];exact mK (L:=some v.ns) (e:=76) (sz:=240) (c:=bZ) (fun x hx=>by cases hx;rw[h _ (by omega) (by omega),aGT v]) (fun x _=>iD x)
  have hn:ov bZ (some v.ns)=s.tree.nodes:=by rw[hs.tree];rfl
  by_cases hFF:F=s.aU.fin
  ·have hd:decide (F=s.aU.fin)=true:=decide_eq_true hFF
   simp only[ZG,seval,Bool.false_and,Prod.mk.injEq,Yb,OC,NW,bS,aT,aX,e3,e6,e7,e9,hXc,hXs,List.length_singleton,hd];refine⟨.agg (aA { s with aU:=⟨J,F⟩,tables:=ov aI (some (rV LT J.aG))}),eG rfl (by simp only[E8,seval,NW,bS]<;>rfl) (cs:=aA { Oc s v 14 0 with aU:=⟨J,F⟩,tables:=X }) (by simp only[Z8,seval,NW,bS,aT,aX,e3,e6,e7,hXc]<;>rfl) ?ex, ?eq⟩
   case ex =>
    rw[bQ];rw[show Ua _ (aA { Oc s v 14 0 with aU:=⟨J,F⟩,tables:=X })=some _ from VI hs (f:=⟨J,F⟩) (bo:=s.eR) (O:=rv 14 (0+nE v) v.O) (N:=.own 14 (0+nO v)) (T:=X) (fun j hj=>by simp only[E8,seval,NW,aT];exact er j (by omega) (by omega)) (xO _ (fun j hj gR=>by simp only[E8,seval,NW,aT];exact er j hj gR)) (xN _ (fun j hj gR=>by simp only[E8,seval,NW,aT];exact er j hj gR)) (hRX _ (by simp only[E8,seval,NW,aT];exact hR))]
    rw[hn,← hs.bK];rfl
   case eq=>rw[if_pos hFF]
  have hd:decide (F=s.aU.fin)=false:=decide_eq_false hFF
  have fr:=eZ v.ns F.root
  have kP:=aPu v.ns hu hr hs.nn (aM v.ns F.root) ⟨f1,fr.2⟩
  unfold z8 at kP;obtain⟨pn,hpn⟩:∃pn,(jT v.ns (aM v.ns F.root) v.ns.length).1=pn:=⟨_,rfl⟩
  have lpn:(pn.length:Int)<1000000:=by rw[← hpn];have:=Wy (ns:=v.ns) (aM v.ns F.root);have:=hs.nn;omega
  rw[hpn] at kP ⊢;have VB:∀(st:St) (d:Option Nat),aN (aB Tryz.prog) 95 [.v (.int .u64 F.aG),.v (.int .u64 s.cFg.kE)] st d=some { dst:=d,val:=.eE [.v (.int .u64 (vO s F.aG).1),.v (.int .i64 (vO s F.aG).2)]}:=fun st d=>k95 rF st d
  have FD:(Oc s v 14 0).eR=s.eR:=rfl
  obtain⟨bo,hb⟩:∃bo,(if aM pn s.eR<0 then dR else s.eR)=bo:=⟨_,rfl⟩
  rw[hb];obtain⟨z,hz⟩:∃z,(vO s F.aG).1=z:=⟨_,rfl⟩
  rw[hz] at VB ⊢
  cases hvO:v.O with
  | none =>
    have hO1:(Oc s v 14 0).cD.bK=.v (.slice none 0 0):=by simp only[Oc,SU,hvO,aCP]
    obtain⟨G2,Ll⟩:=aCT z 11 (st'.aQ 11)
    by_cases g:aM pn s.eR<0<;>simp only[g,if_true,if_false] at hb<;>(try rw[hb] at g)
    all_goals
     simp only[ZG,seval,Bool.false_and,Prod.mk.injEq,Yb,OC,NW,bS,aT,aX,e3,e6,e7,e9,hXc,hXs,List.length_singleton,hd,hs.tree,k89 _ _ hs.nn,k89 _ _ lpn,kP,dM,FD,g,hb,VB,hO1];refine Ya (.v (.slice none 0 0)) (fun st=>st.heap 11 (st'.aQ 11)=some (.cells (lI z))) (fun st nF=>Fi st nF) (fun st h=>⟨_,Ll st h⟩) ?p1 ?rest
     case p1=>simp only[E8,seval,NW,bS,aT,aX]<;>rfl
     case rest =>
      intro nF hF2;have a6:nF.heap 6 0=some (.cells (aA fZ)):=(hF2.1 6 0 (by simp only[E8,seval,NW,bS,aT,aX];exact g6)).trans (by simp only[E8,seval,NW,bS,aT,aX,e6]<;>rfl)
      have a7:nF.heap 7 0=some (.cells (aA { Oc s v 14 0 with aU:=⟨J,F⟩,tables:=X,tree:=⟨.sl pn.length (bZ pn)⟩,eR:=bo })):=(hF2.1 7 0 (by simp only[E8,seval,NW,bS,aT,aX];exact g7)).trans (by simp only[E8,seval,NW,bS,aT,aX,e7]<;>rfl)
      have ar:∀j,j<nE v→nF.heap 14 j=(Ju v)[j]?:=fun j hj=>(hF2.1 14 j (by simp only[E8,seval,NW,bS,aT,aX];omega)).trans (by simp only[E8,seval,NW,bS,aT,aX];exact er j (by omega) (by omega))
      have aR:nF.heap 14 (nO v+1)=some R:=(hF2.1 14 (nO v+1) (by simp only[E8,seval,NW,bS,aT,aX];omega)).trans (by simp only[E8,seval,NW,bS,aT,aX];exact hR)
      simp only[ZG,seval,Bool.false_and,Prod.mk.injEq,Yb,OC,NW,bS,aT,aX,a6,a7];refine⟨.agg (aA { s with aU:=⟨J,F⟩,tables:=ov aI (some (rV LT J.aG)),tree:=⟨.sl pn.length (bZ pn)⟩,eR:=bo,cD:={ s.cD with bK:=ov aF none }}),eG rfl (by simp only[E8,seval,NW,bS,aT,aX]<;>rfl) (cs:=aA { Oc s v 14 0 with aU:=⟨J,F⟩,tables:=X,tree:=⟨.sl pn.length (bZ pn)⟩,eR:=bo,cD:={ (Oc s v 14 0).cD with bK:=.v (.slice none 0 0)} }) (by simp only[Z8,seval,NW,bS,aT,aX,a6,a7]<;>rfl) ?ex, ?eq⟩
      case ex =>
       rw[bQ];rw[show Ua _ (aA { Oc s v 14 0 with aU:=⟨J,F⟩,tables:=X,tree:=⟨.sl pn.length (bZ pn)⟩,eR:=bo,cD:={ (Oc s v 14 0).cD with bK:=.v (.slice none 0 0)} })=some _ from VI hs (f:=⟨J,F⟩) (bo:=bo) (O:=.v (.slice none 0 0)) (N:=.sl pn.length (bZ pn)) (T:=X) (fun j hj=>by simp only[E8,seval,NW,aT];exact ar j hj) (cV (.v _)) (cV (.sl _ _ (iD pn))) (hRX _ (by simp only[E8,seval,NW,aT];exact aR))]
       rfl
      case eq=>rw[if_neg hFF]<;>rfl
  | some LO =>
    have hO1:(Oc s v 14 0).cD.bK=.own 14 (nE v):=by simp only[Oc,SU,hvO,HJ,Nat.zero_add]
    have nOb:=hs.nO
    rw[hvO,Vi] at nOb;have lO:nE v<nO v:=by simp[nO,hvO,rl]
    obtain⟨Y,G2,⟨hYc,hYs⟩,Ll⟩:=aG4 LO nOb z 14 (nE v) 11 (st'.aQ 11) (by decide) (by decide) (by rintro⟨h,_⟩;omega)
    have eY:(LO.filter fun x=>!(fun x:Block=>decide (x.slot≤z)) x)=LO.filter fun b=>decide (z<b.slot):=by
     congr 1
     funext x
     simp only[← decide_not,Int.not_le]
    simp only[eY] at Ll;by_cases g:aM pn s.eR<0<;>simp only[g,if_true,if_false] at hb<;>(try rw[hb] at g)
    all_goals
     simp only[ZG,seval,Bool.false_and,Prod.mk.injEq,Yb,OC,NW,bS,aT,aX,e3,e6,e7,e9,hXc,hXs,List.length_singleton,hd,hs.tree,k89 _ _ hs.nn,k89 _ _ lpn,kP,dM,FD,g,hb,VB,hO1];refine Ya Y (fun st=>st.heap 11 (st'.aQ 11)=some (.cells (lI z))∧st.heap 14 (nE v)=some (.row 74 238 LO.length (aF LO))∧nE v<st.aQ 14) (fun st nF=>Ao 14 (nE v) st nF∧∃R,nF.heap 14 (nE v)=some R∧∀st3:St,st3.heap 14 (nE v)=some R→cN st3 Y=some (ov aF (some (LO.filter fun b=>decide (z<b.slot))))) (fun st h=>⟨_,Ll st h.1 h.2.1 h.2.2⟩) ⟨?p1, ?p2, ?p3⟩ ?rest
     case p1=>simp only[E8,seval,NW,bS,aT,aX]<;>rfl
     case p2 =>
      simp only[E8,seval,NW,bS,aT,aX];rw[er _ (by omega) (by omega)]
      exact aGS v LO hvO
     case p3=>simp only[E8,seval,NW,bS,aT,aX];omega
     case rest =>
      rintro nF ⟨hF2,R2,hR2,hRY⟩
      have a6:nF.heap 6 0=some (.cells (aA fZ)):=(hF2.1 6 0 (by simp only[E8,seval,NW,bS,aT,aX];exact g6) (by omega)).trans (by simp only[E8,seval,NW,bS,aT,aX,e6]<;>rfl)
      have a7:nF.heap 7 0=some (.cells (aA { Oc s v 14 0 with aU:=⟨J,F⟩,tables:=X,tree:=⟨.sl pn.length (bZ pn)⟩,eR:=bo })):=(hF2.1 7 0 (by simp only[E8,seval,NW,bS,aT,aX];exact g7) (by omega)).trans (by simp only[E8,seval,NW,bS,aT,aX,e7]<;>rfl)
      have ar:∀j,j<nE v→nF.heap 14 j=(Ju v)[j]?:=fun j hj=>(hF2.1 14 j (by simp only[E8,seval,NW,bS,aT,aX];omega) (by omega)).trans (by simp only[E8,seval,NW,bS,aT,aX];exact er j (by omega) (by omega))
      have aR:nF.heap 14 (nO v+1)=some R:=(hF2.1 14 (nO v+1) (by simp only[E8,seval,NW,bS,aT,aX];omega) (by omega)).trans (by simp only[E8,seval,NW,bS,aT,aX];exact hR)
      simp only[ZG,seval,Bool.false_and,Prod.mk.injEq,Yb,OC,NW,bS,aT,aX,a6,a7,hYc,hYs,List.length_singleton];refine⟨.agg (aA { s with aU:=⟨J,F⟩,tables:=ov aI (some (rV LT J.aG)),tree:=⟨.sl pn.length (bZ pn)⟩,eR:=bo,cD:={ s.cD with bK:=ov aF (some (LO.filter fun b=>decide (z<b.slot)))} }),eG rfl (by simp only[E8,seval,NW,bS,aT,aX]<;>rfl) (cs:=aA { Oc s v 14 0 with aU:=⟨J,F⟩,tables:=X,tree:=⟨.sl pn.length (bZ pn)⟩,eR:=bo,cD:={ (Oc s v 14 0).cD with bK:=Y }}) (by simp only[Z8,seval,NW,bS,aT,aX,a6,a7,hYc]<;>rfl) ?ex, ?eq⟩
      case ex =>
       rw[bQ];rw[show Ua _ (aA { Oc s v 14 0 with aU:=⟨J,F⟩,tables:=X,tree:=⟨.sl pn.length (bZ pn)⟩,eR:=bo,cD:={ (Oc s v 14 0).cD with bK:=Y }})=some _ from VI hs (f:=⟨J,F⟩) (bo:=bo) (O:=Y) (N:=.sl pn.length (bZ pn)) (T:=X) (fun j hj=>by simp only[E8,seval,NW,aT];exact ar j hj) (hRY _ (by simp only[E8,seval,NW,aT];exact hR2)) (cV (.sl _ _ (iD pn))) (hRX _ (by simp only[E8,seval,NW,aT];exact aR))]
       rfl
      case eq=>rw[if_neg hFF]<;>rfl
theorem aNc (i:Int) (i0:0≤i) (i1:i<1000000):aB Tryz.prog 145 [.v (.slice none 0 0),.v (.int .i64 i)]=some (.v (.int .i64 (Jo [] i))):=by
 have e1:∃y,aB Tryz.prog 145 [.sl 0 (aK []),.v (.int .i64 i)]=some y∧aB Tryz.prog 145 [.v (.slice none 0 0),.v (.int .i64 i)]=some y:=by
  refine⟨.v (.int .i64 (IntKind.i64.wrap ((BitVec.ofInt IntKind.i64.bits i &&& BitVec.ofInt IntKind.i64.bits 65535).toNat:Int))), ?_, ?_⟩
  ·rw[cL Tryz.func145 rfl N3 rfl];refine iN ?_
   simp only[Z8,seval,VA];exact⟨_,bX rfl (by simp only[E8,seval]<;>rfl) (by first|exact .v _|simp only[dV]),rfl⟩
  ·rw[cL Tryz.func145 rfl N3 rfl];refine iN ?_
   simp only[Z8,seval,VA];exact⟨_,bX rfl (by simp only[E8,seval]<;>rfl) (by first|exact .v _|simp only[dV]),rfl⟩
 obtain⟨y,h1,h2⟩:=e1
 have h3:=(Gt [] (by decide) i i0 i1).1
 have h4:aB Tryz.prog 145 [.sl 0 (aK []),.v (.int .i64 i)]=some (.v (.int .i64 (Jo [] i))):=h3
 rw[h1] at h4;rw[h2,h4]
theorem Ho (i:Int) (i0:0≤i) (i1:i<1000000) (st:St) (d:Option Nat):aN (aB Tryz.prog) 145 [.v (.slice none 0 0),.v (.int .i64 i)] st d=some { dst:=d,val:=.v (.int .i64 (Jo [] i))}:=bG (bE (.v _) (.v _)) (aNc i i0 i1) (.v _)
theorem aNd:∃x,aB Tryz.prog 101 [.v (.slice none 0 0)]=some x∧∃(c:Config) (b:List Int),x=.agg (bV c)∧Hh c b:=by
 have hc:=fun (i:Int) (h:0≤i∧i<1000000)=>(Gt [] (by decide) i h.1 h.2).2.1
 have k0:=Ho 0 (by omega) (by omega)
 obtain⟨a0,b0⟩:=cP (n:=8) (hc 0 (by omega)) (by omega)
 obtain⟨x0,h0⟩:∃x,(Jo [] 0).tmod 8=x:=⟨_,rfl⟩
 rw[h0] at a0 b0;have k1:=Ho 1 (by omega) (by omega)
 obtain⟨a1,b1⟩:=cP (n:=4) (hc 1 (by omega)) (by omega)
 obtain⟨x1,h1⟩:∃x,(Jo [] 1).tmod 4=x:=⟨_,rfl⟩
 rw[h1] at a1 b1;have k2:=Ho 2 (by omega) (by omega)
 obtain⟨a2,b2⟩:=cP (n:=4) (hc 2 (by omega)) (by omega)
 obtain⟨x2,h2⟩:∃x,(Jo [] 2).tmod 4=x:=⟨_,rfl⟩
 rw[h2] at a2 b2;have k3:=Ho 3 (by omega) (by omega)
 obtain⟨a3,b3⟩:=cP (n:=4) (hc 3 (by omega)) (by omega)
 obtain⟨x3,h3⟩:∃x,(Jo [] 3).tmod 4=x:=⟨_,rfl⟩
 rw[h3] at a3 b3;have k4:=Ho 4 (by omega) (by omega)
 obtain⟨a4,b4⟩:=cP (n:=4) (hc 4 (by omega)) (by omega)
 obtain⟨x4,h4⟩:∃x,(Jo [] 4).tmod 4=x:=⟨_,rfl⟩
 rw[h4] at a4 b4;have k5:=Ho 5 (by omega) (by omega)
 obtain⟨a5,b5⟩:=cP (n:=5) (hc 5 (by omega)) (by omega)
 obtain⟨x5,h5⟩:∃x,(Jo [] 5).tmod 5=x:=⟨_,rfl⟩
 rw[h5] at a5 b5;have k6:=Ho 6 (by omega) (by omega)
 obtain⟨a6,b6⟩:=cP (n:=4) (hc 6 (by omega)) (by omega)
 obtain⟨x6,h6⟩:∃x,(Jo [] 6).tmod 4=x:=⟨_,rfl⟩
 rw[h6] at a6 b6;have k7:=Ho 7 (by omega) (by omega)
 obtain⟨a7,b7⟩:=cP (n:=3) (hc 7 (by omega)) (by omega)
 obtain⟨x7,h7⟩:∃x,(Jo [] 7).tmod 3=x:=⟨_,rfl⟩
 rw[h7] at a7 b7;have k8:=Ho 8 (by omega) (by omega)
 obtain⟨a8,b8⟩:=cP (n:=2) (hc 8 (by omega)) (by omega)
 obtain⟨x8,h8⟩:∃x,(Jo [] 8).tmod 2=x:=⟨_,rfl⟩
 rw[h8] at a8 b8;have k9:=Ho 9 (by omega) (by omega)
 obtain⟨a9,b9⟩:=cP (n:=5) (hc 9 (by omega)) (by omega)
 obtain⟨x9,h9⟩:∃x,(Jo [] 9).tmod 5=x:=⟨_,rfl⟩
 rw[h9] at a9 b9;have w0:IntKind.i64.wrap (6+x0)=6+x0:=mZ _ (by omega) (by omega)
 have w3:IntKind.i64.wrap (1+x3)=1+x3:=mZ _ (by omega) (by omega)
 have w5:IntKind.i64.wrap (1+x5)=1+x5:=mZ _ (by omega) (by omega)
 have w5':IntKind.u64.wrap (1+x5)=1+x5:=wrap_u64 _ (by omega) (by omega)
 have w6:IntKind.i64.wrap (1+x6)=1+x6:=mZ _ (by omega) (by omega)
 have w6':IntKind.u64.wrap (1+x6)=1+x6:=wrap_u64 _ (by omega) (by omega)
 have w9:IntKind.i64.wrap (2+x9)=2+x9:=mZ _ (by omega) (by omega)
 have g7:=nM (l:=[0,40,100]) a7 (by show x7<((3:Nat):Int);omega)
 obtain⟨bp,hbp⟩:∃y,it [0,40,100] x7=y:=⟨_,rfl⟩
 have hbp1:0≤bp∧bp≤100:=by
  rcases (by omega:x7=0∨x7=1∨x7=2) with e|e|e<;>(rw[e] at hbp;rw[← hbp];decide)
 have w7:IntKind.u64.wrap bp=bp:=wrap_u64 _ (by omega) (by omega)
 rw[cL Tryz.func101 rfl aFn rfl];simp only[Z8,seval,lS,lU,k0,k1,k2,k3,k4,k5,k6,k7,k8,h0,h1,h2,h3,h4,h5,h6,h7,h8,w0,w3,w5,w5',w6,w6',a7,b7,g7,hbp,w7,pJ,Nat.reduceLT,Qg];have n9:(2+x9).toNat≤6:=by omega
 refine cF (fun m st=>∃(j:Nat) (lG:lD) (sp bq:Int) (tt:qN) (X:AV) (b:List Int),(st.env 0=.v (.slice none 0 0)∧st.env 2=.ptr 2 0 0∧st.heap 2 0=some (.cells (bV mO))∧st.env 3=.ptr 3 0 0∧st.heap 3 0=some (.cells (bV ⟨lG,sp,bq,tt,mkRoot 1,X⟩))∧st.env 4=.v (.int .i64 j))∧(lG=⟨6+x0,x1,x2,1+x3,x4,1+x5⟩∧sp=1+x6∧bq=bp)∧((X=.v (.slice none 0 0)∧b=[])∨∃g,X=.own 64 g∧g<st.aQ 64∧st.heap 64 g=some (.row 23 1 b.length (bJ b)))∧(∀y∈b,0≤y∧y≤1000)∧b.length=j∧j≤(2+x9).toNat∧m=(2+x9).toNat-j)
  (fun e st=>e=.exit 0∧∃(lG:lD) (sp bq:Int) (tt:qN) (g:Nat) (b:List Int),(st.env 2=.ptr 2 0 0∧st.heap 2 0=some (.cells (bV mO))∧st.env 3=.ptr 3 0 0∧st.heap 3 0=some (.cells (bV ⟨lG,sp,bq,tt,mkRoot 1,.own 64 g⟩))∧st.heap 64 g=some (.row 23 1 b.length (bJ b)))∧(lG=⟨6+x0,x1,x2,1+x3,x4,1+x5⟩∧sp=1+x6∧bq=bp)∧(∀y∈b,0≤y∧y≤1000)∧1≤b.length∧b.length≤6) (2+x9).toNat ?step ?start ?rest
 case step =>
  rintro m st ⟨j,lG,sp,bq,tt,X,b,hI,hC,hX,hb,hj,hjn,hm⟩
  by_cases bA:(j:Int)<2+x9
  ·have q0:(0:Int)≤j:=by omega
   have hw:IntKind.i64.wrap ((j:Int)+1)=((j+1:Nat):Int):=by rw[mZ _ (by omega) (by omega)];omega
   obtain⟨jj,hjj⟩:∃jj:Int,jj=10+(j:Int):=⟨_,rfl⟩
   have YZ:IntKind.i64.wrap (10+(j:Int))=jj:=by rw[mZ _ (by omega) (by omega),hjj]
   have kj:=Ho jj (by omega) (by omega)
   obtain⟨aj,bj⟩:=cP (n:=40) (Gt [] (by decide) jj (by omega) (by omega)).2.1 (by omega)
   obtain⟨y,hy⟩:∃y,(Jo [] jj).tmod 40=y:=⟨_,rfl⟩
   rw[hy] at aj bj;have wy:IntKind.u64.wrap y=y:=wrap_u64 _ (by omega) (by omega)
   have nL:(b.length:Int)<1000000:=by omega
   have Sx:∀z∈b++[y],0≤z∧z≤1000:=fun z hz=>(List.mem_append.1 hz).elim (hb z) fun e=>by rw[List.mem_singleton] at e;rw[e];omega
   have yC:(b++[y]).length=j+1:=by rw[List.length_append,List.length_cons,List.length_nil];omega
   rcases hX with ⟨rfl,rfl⟩|⟨g,rfl,hg,hh⟩
   ·apply oN ((2+x9).toNat-(j+1))
    ·simp only[Z8,seval,hI,k9,h9,w9,bA,YZ,kj,hy,wy,hw];rfl
    ·exact⟨j+1,_,_,_,_,_,[]++[y],⟨by simp only[E8,seval,hI],by simp only[E8,seval,hI],by simp only[E8,seval,hI],by simp only[E8,seval,hI],by simp only[E8,seval,hI]<;>rfl,by simp only[E8,seval]⟩,hC,.inr ⟨_,rfl,by simp only[E8,seval]<;>omega,by simp only[E8,seval]<;>rfl⟩,Sx,yC,by omega,rfl⟩
   ·have uV:(g=st.aQ 64)=False:=eq_false (by omega)
    apply oN ((2+x9).toNat-(j+1))
    ·simp only[Z8,seval,hI,hh,uV,k9,h9,w9,bA,YZ,kj,hy,wy,hw,wF _ _ _ _ nL];rfl
    ·exact⟨j+1,_,_,_,_,_,b++[y],⟨by simp only[E8,seval,hI],by simp only[E8,seval,hI],by simp only[E8,seval,hI],by simp only[E8,seval,hI],by simp only[E8,seval,hI]<;>rfl,by simp only[E8,seval]⟩,hC,.inr ⟨_,rfl,by simp only[E8,seval]<;>omega,by simp only[E8,seval]<;>rfl⟩,Sx,yC,by omega,rfl⟩
  ·rcases hX with ⟨rfl,rfl⟩|⟨g,rfl,hg,hh⟩
   ·simp at hj;omega
   ·apply oT (.exit 0)
    ·simp only[Z8,seval,hI,k9,h9,w9,bA];rfl
    ·exact⟨rfl,_,_,_,_,g,b,⟨by simp only[E8,seval,hI],by simp only[E8,seval,hI],by simp only[E8,seval,hI],by simp only[E8,seval,hI]<;>rfl,by simp only[E8,seval,hh]⟩,hC,hb,by omega,by omega⟩
 case start=>exact⟨0,_,_,_,_,_,[],by and_intros<;>(simp only[E8,seval]<;>rfl),⟨rfl,rfl,rfl⟩,.inl ⟨rfl,rfl⟩,by simp,rfl,by omega,by omega⟩
 case rest =>
  rintro e st ⟨rfl,lG,sp,bq,tt,g,b,hI,⟨rfl,rfl,rfl⟩,hb,yC,Tx⟩
  simp only[Z8,seval,hI];exact⟨_,by apply eG;rfl;all_goals simp only[aH,Z8,seval,hI,bQ,Lq,bP,uH,dV]<;>rfl,⟨⟨6+x0,x1,x2,1+x3,x4,1+x5⟩,1+x6,bq,tt,mkRoot 1,ov bJ (some b)⟩,b,rfl,⟨rfl,by omega,hb,by dsimp only;omega,by dsimp only;omega,by dsimp only;omega,by dsimp only;omega,by dsimp only;omega,by dsimp only;omega,by dsimp only;omega,by dsimp only;omega,rfl,by dsimp only;omega⟩⟩
theorem aG5 {c:Config} {b:List Int} (h:Hh c b):¬jW (yE c b) (An c b) ⟨0,c.cW⟩ ⟨0,c.cW⟩:=by
 have g:=(NO h).1
 have hs:1≤(yE c b).cFg.kE∧(yE c b).cFg.kE≤64:=h.kE
 have s0:=U9 (s:=yE c b) hs (e:=0) (x:=0) (by omega) (iK _).1 ⟨by omega,by omega⟩
 have Of:(vO (yE c b) 0).1=0:=by rw[s0.1];show (0:Int) * _=0;rw[Int.zero_mul]
 have nd0:nd (An c b).ns 0=⟨MQ c,-1,1⟩:=rfl
 have he:GJ (yE c b) (An c b).ns 0 0:=.inr (by rw[Of,nd0];exact Int.le_refl 0)
 have ha:tP (An c b).ns 0 0=true:=Ng (GI.new h).up (by omega) (by show (0:Int)<((1:Nat):Int);omega)
 have ht:Ja (ol (An c b).T) ⟨0,c.cW⟩=0:=by
  show uF (fun k=>(gx dX [(⟨⟨0,c.cW⟩,ov bJ (some b)⟩:Table)] k).ck=⟨0,c.cW⟩) 1=0
  exact Bd (p:=fun k=>(gx dX [(⟨⟨0,c.cW⟩,ov bJ (some b)⟩:Table)] k).ck=⟨0,c.cW⟩) (k:=0) rfl (fun j hj=>by omega) 1 (by omega)
 unfold jW;rw[show (⟨0,c.cW⟩:dP).root=c.cW from rfl,g,nd0,ht,ha];rintro (h1|h1|h1|h1|h1|h1|h1|h1|h1|h1)
 ·omega
 ·omega
 ·exact absurd h1 (by show ¬(1:Int)=2;omega)
 ·exact absurd h1 (by show ¬(1:Int)=2;omega)
 ·exact h1 he
 ·exact h1 he
 ·cases h1
 ·exact absurd h1 (Int.lt_irrefl _)
 ·exact absurd h1 (by have:=(iK ((yE c b).now.tdiv (yE c b).cFg.kE)).1;unfold xM;show ¬_<(0:Int);omega)
 ·omega
theorem c62:aB Tryz.prog 62 []=some (.v (.bool true)):=by
 obtain⟨y,hy,c,b,rfl,hc⟩:=aNd
 have fc:Flat (.agg (bV c)):=(yO c).2 (by rw[hc.iP];exact dU _)
 have aCN:∀(st:St) (d:Option Nat),fF (aB Tryz.prog) 101 [.v (.slice none 0 0)] st d=some { dst:=d,val:=.agg (bV c)}:=fun st d=>kx hy (cU (.v _)) fc st d
 have g0:=GI.new hc
 have r0:=RG.new hc
 have fs:=g0.sd.flat
 have aGR:=kx (aLL hc) (cU fc) (.eE _ (bE fs (.v _)))
 have ef:(yE c b).aU.fin=⟨0,c.cW⟩:=rfl
 have ej:(yE c b).aU.gJ=⟨0,c.cW⟩:=rfl
 have R0:Rg (0:Int):=⟨by omega,by omega⟩
 have R1:Rg (1:Int):=⟨by omega,by omega⟩
 have oS:=aG5 hc
 have cj:rK (yE c b) ⟨0,c.cW⟩=⟨0,c.cW⟩:=if_neg (Int.lt_irrefl _)
 have cf:tQ (yE c b) ⟨0,c.cW⟩=⟨0,c.cW⟩:=if_neg (Int.lt_irrefl _)
 have ka:=k58 g0.sd g0.up hc.kE R0 R0 R0 ⟨1,mkRoot 9⟩ ⟨0,c.cW⟩ R1 R0
 have kb:=k58 g0.sd g0.up hc.kE R0 R0 R0 ⟨0,c.cW⟩ ⟨0,c.cW⟩ R0 R0
 have bad:Jr (yE c b) (An c b) ⟨1,mkRoot 9⟩ ⟨0,c.cW⟩=.eE [.agg (aY gN),.agg (aY gN),.v (.bool false)]:=if_pos (.inl (by
  rw[show rK (yE c b) ⟨1,mkRoot 9⟩=⟨1,mkRoot 9⟩ from if_pos (by show (0:Int)<1;omega)]
  show aM (An c b).ns (mkRoot 9)<0
  rw[(NO hc).2];omega))
 have aCV:Jr (yE c b) (An c b) ⟨0,c.cW⟩ ⟨0,c.cW⟩=.eE [.agg (aY ⟨0,c.cW⟩),.agg (aY ⟨0,c.cW⟩),.v (.bool true)]:=by
  unfold Jr;rw[cj,cf,if_neg oS]
 rw[bad] at ka;rw[aCV] at kb;have up:BN (yE c b) (An c b) ⟨0,c.cW⟩ ⟨0,c.cW⟩=yE c b:=by
  unfold BN;rw[cj,cf,if_neg oS,if_pos ef.symm];rfl
 have hB:(An c b).B≠some []:=fun e=>by have:=hc.nb.1;rw[show b=[] from Option.some.inj e] at this;simp at this
 have hL:(An c b).L≠some []:=fun e=>by
  have h2:=congrArg List.length (Option.some.inj e)
  rw[List.length_replicate,List.length_nil] at h2;have:=hc.nb;omega
 have h60:=c60 g0.sd g0.up (by rw[g0.DT];omega) hc.kE R0 R0 R0 r0.ne hB hL g0.pos ⟨0,c.cW⟩ ⟨0,c.cW⟩ R0 R0
 rw[up] at h60;have k60:=kx h60 (mD fs (.agg _ (bM _)) (.agg _ (bM _))) fs
 have ke:=k42 g0.sd
 have et:(yE c b).tree=⟨.sl (An c b).ns.length (bZ (An c b).ns)⟩:=rfl
 have el:(An c b).ns.length=1:=rfl
 rw[cL Tryz.func62 rfl aSC rfl];refine iN ?_
 simp only[Z8,seval,aCN,aGR,dM,ef,ej,Qg,ka,kb,k60,ke,et,el,NT,VA,beB,beq_self_eq_true,decide_true,lS,lU];exact⟨_,bX rfl (by simp only[E8,seval]<;>rfl) (by first|exact .v _|simp only[dV]),rfl⟩
theorem k62 (st:St) (d:Option Nat):aN (aB Tryz.prog) 62 [] st d=some { dst:=d,val:=.v (.bool true)}:=bG (fun x h=>by cases h) c62 (.v _)
end Go.Ab.Tryz
namespace Go.Ab.Tryz
open Classical Go.Proofs Go.Ab
end Go.Ab.Tryz
namespace Go.Ab.Tryz
open Classical Go.Proofs Go.Ab
theorem aNg (o p:Option (List Table)) (e:ol p=ol o) (hn:((ol o).length:Int)<1000000) (hA:∀a∈ol o,qJ a):aB Tryz.prog 107 [ov aI o,ov aI p]=some (.v (.bool true)):=by
 rw[cL Tryz.func107 rfl aFw (by cases o<;>cases p<;>rfl)]
 refine iN ?_
 simp only[Z8,seval,e,NT,VA];refine cF (fun m st=>∃k:Nat,(st.env 0=ov aI o∧st.env 1=ov aI p∧st.env 5=.v (.int .i64 k))∧k≤(ol o).length∧m=(ol o).length-k)
  (fun e st=>e=.exit 0) ((ol o).length) ?step ?start ?rest
 case step =>
  rintro m st ⟨k,hI,hk,hm⟩
  by_cases bA:(k:Int)<((ol o).length:Nat)
  ·have q0:(0:Int)≤k:=by omega
   have hw:IntKind.i64.wrap ((k:Int)+1)=((k+1:Nat):Int):=by rw[mZ _ (by omega) (by omega)];omega
   have kk:=aMV _ (hA _ (pF (z:=dX) q0 bA))
   apply oN ((ol o).length-(k+1))
   ·simp only[Z8,seval,e,hI,bA,q0,kk,NT,hw,VA];rfl
   ·exact⟨k+1,by simp only[E8,seval,hI],by omega,rfl⟩
  ·apply oT (.exit 0)
   ·simp only[Z8,seval,e,hI,bA,VA];rfl
   ·exact rfl
 case start=>exact⟨0,by simp only[E8,seval]<;>exact⟨rfl,rfl,rfl⟩,by omega,by omega⟩
 case rest =>
  rintro e st rfl
  simp only[Z8,seval];exact⟨_,bX rfl (by simp only[E8,seval]<;>rfl) (by first|exact .v _|simp only[dV]),rfl⟩
theorem aNh (o p:Option (List Table)) (e:ol p=ol o) (hn:((ol o).length:Int)<1000000) (hA:∀a∈ol o,qJ a) (st:St) (d:Option Nat):aN (aB Tryz.prog) 107 [ov aI o,ov aI p] st d=some { dst:=d,val:=.v (.bool true)} :=
 bG (bE (fY o fun y hy=>(hA y hy).fl) (fY p fun y hy=>(hA y (by rw[← e];exact hy)).fl)) (aNg o p e hn hA) (.v _)
theorem aSD {s S:aL} {v:SV} (hs:SD s v) (o1:Option (List Table)) (o2:Option (List Block)) (eT:ol o1=ol v.T) (eO:ol o2=ol v.O) (hS:S={ s with tables:=ov aI o1,cD:={ s.cD with bK:=ov aF o2 }}):∃r,aB Tryz.prog 42 [.agg (aA S),.agg (aA s)]=some r∧r=.v (.bool true):=by
 have s1:S.cFg=s.cFg:=by rw[hS]
 have s2:S.gH=s.gH:=by rw[hS]
 have s3:S.aU=s.aU:=by rw[hS]
 have s4:S.cD.early=ov dN v.E:=by rw[hS,← hs.early]
 have s5:S.cD.bK=ov aF o2:=by rw[hS]
 have s6:S.tree=s.tree:=by rw[hS]
 have s7:S.now=s.now:=by rw[hS]
 have s8:S.eR=s.eR:=by rw[hS]
 have s9:S.tables=ov aI o1:=by rw[hS]
 rw[cG Tryz.func42 rfl aMW (by kernel_rfl) rfl]
 have kB:=S3 v.B hs.nB
 have kL:=aMS v.L hs.nL
 have kQ:=V9 v.Q hs.nQ
 have kn:=aJ8 v.ns v.ns hs.nn
 have kT:=aNh o1 v.T eT.symm (by rw[eT];exact hs.nT) (by rw[eT];exact hs.tB)
 simp only[ZG,seval,Bool.false_and,Prod.mk.injEq,Od,aFx,s1,s2,s3,s4,s5,s6,s7,s8,s9,eO,hs.iP,hs.eA,hs.gW,hs.early,hs.bK,hs.tree,hs.tables,NT,VA,kB,kL,kQ,kn,kT,decide_true,Bool.not_true,lS,lU];refine jH (fun m st=>∃k:Nat,(st.env 2=.ptr 2 0 0∧st.heap 2 0=some (.cells (aA S))∧st.env 3=.ptr 3 0 0∧st.heap 3 0=some (.cells (aA s))∧st.env 7=.v (.int .i64 k))∧k≤(ol v.E).length∧m=(ol v.E).length-k)
  (fun e st=>e=.exit 0∧(st.env 2=.ptr 2 0 0∧st.heap 2 0=some (.cells (aA S))∧st.env 3=.ptr 3 0 0∧st.heap 3 0=some (.cells (aA s)))) (ol v.E).length ?step ?start ?rest
 case step =>
  rintro m st ⟨k,hI,hk,hm⟩
  have hn:=hs.nE
  by_cases bA:(k:Int)<(ol v.E).length
  ·have q0:(0:Int)≤k:=by omega
   have hw:IntKind.i64.wrap ((k:Int)+1)=((k+1:Nat):Int):=by rw[mZ _ (by omega) (by omega)];omega
   have kk:=aMU _ (hs.eV _ (pF (z:=Hk) q0 bA))
   apply Am ((ol v.E).length-(k+1))
   ·simp only[ZG,seval,Bool.false_and,Prod.mk.injEq,Od,hs.early,s4,hI,bA,q0,kk,NT,Bool.not_true,hw];rfl
   ·exact⟨k+1,by simp only[E8,seval,hI],by omega,rfl⟩
  ·apply AX (.exit 0)
   ·simp only[ZG,seval,Bool.false_and,Prod.mk.injEq,Od,hs.early,s4,hI,bA];rfl
   ·exact⟨rfl,by simp only[E8,seval,hI]⟩
 case start=>exact⟨0,by simp only[E8,seval]<;>exact⟨rfl,rfl,rfl,rfl,rfl⟩,by omega,by omega⟩
 case rest =>
  rintro e st ⟨rfl,hI⟩
  simp only[ZG,seval,Bool.false_and,Prod.mk.injEq,Od,hI];refine jH (fun m st=>∃k:Nat,(st.env 2=.ptr 2 0 0∧st.heap 2 0=some (.cells (aA S))∧st.env 3=.ptr 3 0 0∧st.heap 3 0=some (.cells (aA s))∧st.env 8=.v (.int .i64 k))∧k≤(ol v.O).length∧m=(ol v.O).length-k)
   (fun e st=>e=.exit 2) (ol v.O).length ?MK ?Xf ?Xg
  case MK =>
   rintro m st ⟨k,hI,hk,hm⟩
   have hn:=hs.nO
   by_cases bA:(k:Int)<(ol v.O).length
   ·have q0:(0:Int)≤k:=by omega
    have hw:IntKind.i64.wrap ((k:Int)+1)=((k+1:Nat):Int):=by rw[mZ _ (by omega) (by omega)];omega
    apply Am ((ol v.O).length-(k+1))
    ·simp only[ZG,seval,Bool.false_and,Prod.mk.injEq,Od,hs.bK,s5,eO,hI,bA,q0,NT,decide_true,Bool.not_true,hw];rfl
    ·exact⟨k+1,by simp only[E8,seval,hI],by omega,rfl⟩
   ·apply AX (.exit 2)
    ·simp only[ZG,seval,Bool.false_and,Prod.mk.injEq,Od,hs.bK,s5,eO,hI,bA];rfl
    ·exact rfl
  case Xf=>exact⟨0,by simp only[E8,seval,hI]<;>exact⟨rfl,rfl,rfl,rfl,rfl⟩,by omega,by omega⟩
  case Xg =>
   rintro e st rfl
   simp only[ZG,seval,Bool.false_and,Prod.mk.injEq,Od];exact⟨_,bX rfl (by simp only[E8,seval]<;>rfl) (by first|exact .v _|simp only[dV]),rfl⟩
theorem W5 {s S:aL} {v:SV} (hs:SD s v) (o1:Option (List Table)) (o2:Option (List Block)) (eT:ol o1=ol v.T) (hS:S={ s with tables:=ov aI o1,cD:={ s.cD with bK:=ov aF o2 }}):Flat (.agg (aA S)):=by
 obtain⟨h1,h2,h3,h4,h5,h6,h7⟩:=hs.fl
 rw[hS];exact (wP _).2 ⟨h1,h2,h3,h4,uC o2,h6,fY o1 fun y hy=>(hs.tB y (by rw[← eT];exact hy)).fl⟩
theorem aSE {s S:aL} {v:SV} (hs:SD s v) (o1:Option (List Table)) (o2:Option (List Block)) (eT:ol o1=ol v.T) (eO:ol o2=ol v.O) (hS:S={ s with tables:=ov aI o1,cD:={ s.cD with bK:=ov aF o2 }}) (st:St) (d:Option Nat):aN (aB Tryz.prog) 42 [.agg (aA S),.agg (aA s)] st d=some { dst:=d,val:=.v (.bool true)}:=by
 obtain⟨r,h,e⟩:=aSD hs o1 o2 eT eO hS
 subst e;exact bG (bE (W5 hs o1 o2 eT hS) hs.flat) h (.v _)
theorem aNi (cs:List AV) (n s g m:Nat):fJ (.ip cs n) (.ptr s g m)=True:=rfl
theorem aNj (cs:List AV) (n s g m:Nat):fJ (.ptr s g m) (.ip cs n)=True:=rfl
theorem x56 {s:aL} {v:SV} {q:Int} (h:GI s v q) (r:RG s v) (k:Int):∃x,aB Tryz.prog 56 [.agg (aA s),.v (.int .i64 k)]=some x∧∃a b:dP,x=.eE [.agg (aY a),.agg (aY b)]∧Rg a.aG∧Rg b.aG:=by
 have Ai:(0:Int)<(v.ns.length:Int):=by have:=h.pos;omega
 have gR:¬((v.ns.length:Int)=0):=by omega
 have hs:=h.sd
 obtain⟨b0,_⟩:=Ct k 255 (by decide)
 obtain⟨x1,hx1⟩:∃x,IntKind.i64.wrap ((BitVec.ofInt IntKind.i64.bits k &&& BitVec.ofInt IntKind.i64.bits 255).toNat:Int)=x:=⟨_,rfl⟩
 rw[hx1] at b0;obtain⟨m1,m2⟩:=cP (n:=(v.ns.length:Int)) b0 Ai
 obtain⟨p,hp⟩:∃p,x1.tmod (v.ns.length:Int)=p:=⟨_,rfl⟩
 rw[hp] at m1 m2;obtain⟨b2,_⟩:=Ct (k.fdiv (2 ^ min 8 IntKind.i64.bits)) 255 (by decide)
 obtain⟨x2,hx2⟩:∃x,IntKind.i64.wrap ((BitVec.ofInt IntKind.i64.bits (k.fdiv (2 ^ min 8 IntKind.i64.bits)) &&& BitVec.ofInt IntKind.i64.bits 255).toNat:Int)=x:=⟨_,rfl⟩
 rw[hx2] at b2;obtain⟨m3,m4⟩:=cP (n:=(v.ns.length:Int)) b2 Ai
 obtain⟨p',SJ⟩:∃p,x2.tmod (v.ns.length:Int)=p:=⟨_,rfl⟩
 rw[SJ] at m3 m4;have r1:=(r.nd _ (Qt m1 m2)).1
 have r2:=(r.nd _ (Qt m3 m4)).1
 have UF:Rg s.now:=⟨r.now.1,by have:=r.now.2;omega⟩
 have rd:=iK (s.now.tdiv s.cFg.kE)
 have sp0:¬s.cFg.kE=0:=by have:=h.kE.1;omega
 have ht:=hs.tree
 have fl2:∀a b:dP,Flat (.eE [.agg (aY a),.agg (aY b)]):=fun a b=>.eE _ (bE (.agg _ (bM a)) (.agg _ (bM b)))
 rw[cG Tryz.func56 rfl aSF (by kernel_rfl) rfl]
 cases h1:(IntKind.i64.wrap ((BitVec.ofInt IntKind.i64.bits (k.fdiv (2 ^ min 16 IntKind.i64.bits)) &&& BitVec.ofInt IntKind.i64.bits 3).toNat:Int) == 0) <;>
 cases h2:(IntKind.i64.wrap ((BitVec.ofInt IntKind.i64.bits (k.fdiv (2 ^ min 16 IntKind.i64.bits)) &&& BitVec.ofInt IntKind.i64.bits 3).toNat:Int) == 1) <;>
 cases h3:(IntKind.i64.wrap ((BitVec.ofInt IntKind.i64.bits (k.fdiv (2 ^ min 16 IntKind.i64.bits)) &&& BitVec.ofInt IntKind.i64.bits 3).toNat:Int) == 2)
 all_goals
  simp only[ZG,seval,Bool.false_and,Prod.mk.injEq,aSG,aNi,aNj,hx1,hp,gR,m1,m2,hx2,SJ,m3,m4,h1,h2,h3,ht,sp0,Qg];exact⟨_,by apply dK;rfl;all_goals simp only[aH,bY,Z8,seval]<;>rfl,_,_,rfl,by first|exact r1.pj|exact iK _,by first|exact r2.pf|exact iK _⟩
theorem x57 {s:aL} {v:SV} (hs:SD s v) (hT1:((ol v.T).length:Int)<999999) (gR:NEv v) (hB:0<(ol v.B).length) (hlim:s.cFg.lG.qC<900000) (c:dP) (L:List dP) (hLc:L=[c]):∃x,aB Tryz.prog 57 [.agg (aA s),.sl L.length (pG L)]=some x∧∃(o:Option (List Table)),x=.agg (aA { s with tables:=ov aI o })∧SD { s with tables:=ov aI o } { v with T:=o }∧NEv { v with T:=o }:=by
 have tOk:qJ ⟨c,ov bJ v.B⟩:=⟨v.B,rfl,hs.nB⟩
 obtain⟨y,hy,s',e,rfl,SR,ne,ho⟩:=aKZ hs hT1 ⟨c,ov bJ v.B⟩ tOk
 have aCL:=kx hy (bE hs.flat ((iE _).2 tOk.fl)) (.eE _ (bE SR (.v _)))
 have fin:∃(S1:aL) (o:Option (List Table)),(if e=0 then s' else s)=S1∧S1={ s with tables:=ov aI o }∧SD S1 { v with T:=o }∧NEv { v with T:=o }:=by
  by_cases he:e=0
  ·obtain⟨o',hs',hl,ht,hsub,hn,hx⟩:=ho he
   refine⟨s',o',if_pos he,hs', ?_,⟨gR.q,gR.e,gR.o,hn,gR.ea,fun t h=>?_⟩⟩
   ·rw[hs'];exact⟨hs.iP,hs.eA,hs.gW,hs.early,hs.bK,hs.tree,rfl,hs.eV,ht,hs.nB,hs.nL,hs.nQ,hs.nE,hs.nO,by show ((ol o').length:Int)<_;omega,hs.nn⟩
   ·rcases hx t h with h|⟨B,h1,h2⟩
    ·exact gR.tb t h
    ·exact⟨B,h1,fun e=>by rw[e] at h2;simp only[List.length_nil] at h2;omega⟩
  ·exact⟨s,v.T,if_neg he,by rw[← hs.tables],hs,gR⟩
 obtain⟨S1,o,e1,e2,e3,e4⟩:=fin
 have f1:=e3.flat
 rw[cL Tryz.func57 rfl aSH rfl];simp only[Z8,seval];have lc:L.length=1:=by rw[hLc];rfl
 refine cF (fun m st=>∃k:Nat,(st.env 1=.sl L.length (pG L)∧st.env 2=.ptr 2 0 0∧st.heap 2 0=some (.cells (aA (if k=0 then s else S1)))∧st.env 4=.ptr 4 0 0∧st.heap 4 0=some (.cells (aA fZ))∧st.env 5=.v (.int .i64 k))∧k≤1∧m=1-k)
  (fun e st=>e=.exit 0∧st.env 2=.ptr 2 0 0∧st.heap 2 0=some (.cells (aA S1))∧st.env 4=.ptr 4 0 0∧st.heap 4 0=some (.cells (aA fZ))) 1 ?step ?start ?rest
 case step =>
  rintro m st ⟨k,hI,hk,hm⟩
  rcases Nat.lt_or_ge k 1 with h|h
  ·obtain rfl:k=0:=by omega
   have hw:IntKind.i64.wrap 1=1:=by rw[mZ _ (by omega) (by omega)]
   have bA:(0:Int)<(L.length:Nat):=by omega
   have g0:gx gN L 0=c:=by rw[hLc];rfl
   simp only[if_true] at hI;by_cases he:e=0
   ·rw[if_pos he] at e1;subst e1;apply oN (0)
    ·simp only[Z8,seval,hI,bA,Int.le_refl,g0,hs.iP,aCL,dM,bt he,hw];rfl
    ·exact⟨1,by simp only[E8,seval,hI,Nat.one_ne_zero,if_false,and_self],by omega,rfl⟩
   ·rw[if_neg he] at e1;subst e1;apply oN (0)
    ·simp only[Z8,seval,hI,bA,Int.le_refl,g0,hs.iP,aCL,dM,bf he,hw];rfl
    ·exact⟨1,by simp only[E8,seval,hI,ite_self,and_self],by omega,rfl⟩
  ·obtain rfl:k=1:=by omega
   have bA:¬((1:Int)<(L.length:Nat)):=by omega
   simp only[Nat.one_ne_zero,if_false] at hI;apply oT (.exit 0)
   ·simp only[Z8,seval,hI,bA];rfl
   ·exact⟨rfl,by simp only[E8,seval,hI]⟩
 case start=>exact⟨0,by simp only[E8,seval]<;>rfl,by omega,rfl⟩
 case rest =>
  rintro e' st ⟨rfl,hI⟩
  simp only[Z8,seval,hI];exact⟨_,fK rfl (by simp only[E8,seval,hI,f1]<;>rfl) (by simp only[Z8,seval,hI,f1]<;>rfl) (by simp only[dV,and_self,hI,f1]),o,by rw[e2],by rw[← e2];exact e3,e4⟩
theorem Vj {l:List Table} {c:dP} {t:Table} (h:t∈l) (e:t.ck=c):0≤Ja l c:=by
 obtain⟨i,hi,rfl⟩:=List.getElem_of_mem h
 unfold Ja;rcases qZ (fun k=>(gx dX l k).ck=c) l.length with ⟨_,hj⟩|⟨k,_,_,_,e2⟩
 ·exact absurd (by show (gx dX l ((i:Nat):Int)).ck=c;rw[Hm hi];exact e) (hj i hi)
 ·rw[e2];omega
theorem aCW {l:List Table} {c:dP} (h:0≤Ja l c):∃t∈l,t.ck=c:=by
 unfold Ja at h;rcases qZ (fun k=>(gx dX l k).ck=c) l.length with ⟨e,_⟩|⟨k,hk,hp,_,_⟩
 ·rw[e] at h;omega
 ·exact⟨_,pF (z:=dX) (i:=(k:Int)) (by omega) (by omega),hp⟩
theorem c17 (l:List Int) (k:Int) (hl:(l.length:Int)≤9223372036854775807):aB Tryz.prog 17 [.sl l.length (aK l),.v (.int .i64 k)]=some (.v (.bool true)):=by
 obtain⟨t,v,Q,R,hy,T⟩:=x24 l hl
 have k24:=kx hy (cU (Kx l)) T.td.flat
 have hs:=T.gi.sd
 have fs:=hs.flat
 obtain⟨kk,hkk⟩:∃kk,IntKind.i64.wrap ((BitVec.ofInt IntKind.i64.bits k &&& BitVec.ofInt IntKind.i64.bits 16777215).toNat:Int)=kk:=⟨_,rfl⟩
 obtain⟨y,hy2,a,b,rfl,ra,rb⟩:=x56 T.gi T.rg kk
 have k56:=kx hy2 (bE fs (.v _)) (.eE _ (bE (.agg _ (bM a)) (.agg _ (bM b))))
 obtain⟨hB,L,hL,hL0⟩:=T.lists
 have Sx:v.L≠some []:=fun e=>hL0 (Option.some.inj (hL.symm.trans e))
 have UF:Rg t.store.now:=⟨T.rg.now.1,by have:=T.rg.now.2;omega⟩
 have h60:=c60 hs T.gi.up (by rw[T.gi.DT];omega) T.gi.kE UF T.rg.j T.rg.f T.rg.ne hB Sx T.gi.pos a b ra rb
 have fT:=fun y hy=>(hs.tB y hy).fl
 have main:∃(S:aL) (o:Option (List Table)) (J:dP),BN t.store v a b=S∧S.tables=ov aI o∧S.aU.gJ=J∧0≤Ja (ol o) J∧((ol o).length:Int)≤(ol v.T).length∧(∀x∈ol v.T,0≤Ja (ol o) x.ck∨x.ck.aG<J.aG)∧(∀x∈ol o,x∈ol v.T)∧(Ja (ol v.T) a<0→t.store.aU.gJ.aG<a.aG→S=t.store)∧Flat (.agg (aA S)):=by
  obtain⟨h1,h2,h3,h4,h5,h6,h7⟩:=hs.fl
  by_cases hb:jW t.store v (rK t.store a) (tQ t.store b)
  ·obtain⟨x,hx,ex⟩:=T.rg.tb
   exact⟨t.store,v.T,_,if_pos hb,hs.tables,rfl,Vj hx ex,Int.le_refl _,fun x hx=>.inl (Vj hx rfl),fun x hx=>hx,fun _ _=>rfl,fs⟩
  have g0:0≤Ja (ol v.T) (rK t.store a):=by
   rcases Int.lt_or_le (Ja (ol v.T) (rK t.store a)) 0 with h|h
   ·exact absurd (.inr (.inr (.inr (.inr (.inr (.inr (.inr (.inr (.inr h))))))))) hb
   ·exact h
  obtain⟨x,hx,ex⟩:=aCW g0
  have eo:ol (v.T.map fun l=>rV l (rK t.store a).aG)=rV (ol v.T) (rK t.store a).aG:=by cases v.T<;>rfl
  have c1:0≤Ja (rV (ol v.T) (rK t.store a).aG) (rK t.store a):=Vj (List.mem_filter.2 ⟨hx,by rw[ex];simp⟩) ex
  have c2:((rV (ol v.T) (rK t.store a).aG).length:Int)≤(ol v.T).length:=by have:=List.length_filter_le (fun x:Table=>decide ((rK t.store a).aG≤x.ck.aG)) (ol v.T);unfold rV;omega
  have c3:∀x∈ol v.T,0≤Ja (rV (ol v.T) (rK t.store a).aG) x.ck∨x.ck.aG<(rK t.store a).aG:=fun x hx=>by
   rcases Int.lt_or_le x.ck.aG (rK t.store a).aG with h|h
   ·exact .inr h
   ·exact .inl (Vj (List.mem_filter.2 ⟨hx,by simpa using h⟩) rfl)
  have c4:Ja (ol v.T) a<0→t.store.aU.gJ.aG<a.aG→False:=fun h h'=>by
   rw[show rK t.store a=a from if_pos h'] at g0;omega
  have fo:Flat (ov aI (v.T.map fun l=>rV l (rK t.store a).aG)):=fY _ fun y hy=>fT y (List.mem_filter.1 (by rw[eo] at hy;exact hy)).1
  rw[← eo] at c1 c2 c3;refine⟨_,v.T.map fun l=>rV l (rK t.store a).aG,rK t.store a,rfl, ?_, ?_,c1,c2,c3,fun x hx=>(List.mem_filter.1 (by rw[eo] at hx;exact hx)).1,fun h h'=>(c4 h h').elim, ?_⟩
  ·unfold BN;rw[if_neg hb];split<;>rfl
  ·unfold BN;rw[if_neg hb];split<;>rfl
  ·unfold BN;rw[if_neg hb];split
   ·exact (wP _).2 ⟨h1,h2,h3,h4,h5,h6,fo⟩
   ·exact (wP _).2 ⟨h1,h2,h3,h4,uC _,.sl _ _ (iD _),fo⟩
 obtain⟨S,o,J,eS,eT,eJ,m1,m2,m3,m4,m5,fS⟩:=main
 rw[eS] at h60;have k60:=kx h60 (mD fs (.agg _ (bM _)) (.agg _ (bM _))) fS
 have no:((ol o).length:Int)<1000000:=by have:=hs.nT;omega
 have fo:=fY o fun y hy=>fT y (m4 y hy)
 have ko:=SL o no fo
 have kT:=SL v.T hs.nT (fY v.T fT)
 have n1:¬Ja (ol o) J<0:=by omega
 have n2:¬((ol v.T).length:Int)<(ol o).length:=by omega
 rw[cL Tryz.func17 rfl aSJ rfl];refine iN ?_
 simp only[Z8,seval,k24,hkk,k56,dM,k60,eT,eJ,ko,hs.tables,n1,n2];refine cF (fun m st=>∃k:Nat,(st.env 5=.ptr 5 0 0∧st.heap 5 0=some (.cells (aA t.store))∧st.env 6=.ptr 6 0 0∧st.heap 6 0=some (.cells (aY a))∧st.env 8=.ptr 8 0 0∧st.heap 8 0=some (.cells (aA S))∧st.env 9=.v (.int .i64 k))∧k≤(ol v.T).length∧m=(ol v.T).length-k) (fun e st=>e=.exit 0∧st.env 5=.ptr 5 0 0∧st.heap 5 0=some (.cells (aA t.store))∧st.env 6=.ptr 6 0 0∧st.heap 6 0=some (.cells (aY a))∧st.env 8=.ptr 8 0 0∧st.heap 8 0=some (.cells (aA S))) (ol v.T).length ?step ?start ?rest
 case step =>
  rintro m st ⟨k,hI,hk,hm⟩
  by_cases bA:(k:Int)<(ol v.T).length
  ·have hnT:=hs.nT
   have q0:(0:Int)≤k:=by omega
   have hw:IntKind.i64.wrap ((k:Int)+1)=((k+1:Nat):Int):=by rw[mZ _ (by omega) (by omega)];omega
   rcases m3 _ (pF (z:=dX) q0 bA) with h|h
   ·apply oN ((ol v.T).length-(k+1))
    ·simp only[Z8,seval,hI,bA,q0,eT,eJ,hs.tables,ko,h,decide_true,hw];rfl
    ·exact⟨k+1,by simp only[E8,seval,hI],by omega,rfl⟩
   ·have h':¬J.aG≤(gx dX (ol v.T) (k:Int)).ck.aG:=by omega
    by_cases g:0≤Ja (ol o) (gx dX (ol v.T) (k:Int)).ck
    ·apply oN ((ol v.T).length-(k+1))
     ·simp only[Z8,seval,hI,bA,q0,eT,eJ,hs.tables,ko,g,decide_true,hw];rfl
     ·exact⟨k+1,by simp only[E8,seval,hI],by omega,rfl⟩
    ·apply oN ((ol v.T).length-(k+1))
     ·simp only[Z8,seval,hI,bA,q0,eT,eJ,hs.tables,ko,g,h',decide_false,hw];rfl
     ·exact⟨k+1,by simp only[E8,seval,hI],by omega,rfl⟩
  ·apply oT (.exit 0)
   ·simp only[Z8,seval,hI,bA,hs.tables];rfl
   ·exact⟨rfl,by simp only[E8,seval,hI]⟩
 case start=>exact⟨0,by simp only[E8,seval]<;>rfl,by omega,by omega⟩
 case rest =>
  rintro e st ⟨rfl,hI⟩
  by_cases g1:Ja (ol v.T) a<0
  case neg =>
   simp only[Z8,seval,hI,hs.tables,kT,g1,k62];exact⟨_,bX rfl (by simp only[E8,seval]<;>rfl) (by first|exact .v _|simp only[dV]),rfl⟩
  by_cases g2:t.store.aU.gJ.aG<a.aG
  case neg =>
   simp only[Z8,seval,hI,hs.tables,kT,g1,g2,k62];exact⟨_,bX rfl (by simp only[E8,seval]<;>rfl) (by first|exact .v _|simp only[dV]),rfl⟩
  have kS:=k42 hs
  have eSS:=m5 g1 g2
  subst eSS;simp only[Z8,seval,hI,hs.tables,kT,g1,g2,kS,k62];exact⟨_,bX rfl (by simp only[E8,seval]<;>rfl) (by first|exact .v _|simp only[dV]),rfl⟩
theorem W6 {s:aL} {v:SV} (hs:SD s v) (a b:dP):∃(o1:Option (List Table)) (o2:Option (List Block)),ol o1=ol (Cy s v a b).T∧ol o2=ol (Cy s v a b).O∧BN s v a b={ uU s v a b with tables:=ov aI o1,cD:={ (uU s v a b).cD with bK:=ov aF o2 }}:=by
 have e1:∀x:Int,ol (v.T.map fun l=>rV l x)=rV (ol v.T) x:=fun x=>by cases v.T<;>rfl
 have e2:∀p:Block→Bool,ol (v.O.map fun l=>l.filter p)=(ol v.O).filter p:=fun p=>by cases v.O<;>rfl
 unfold BN uU Cy;by_cases hb:jW s v (rK s a) (tQ s b)
 ·simp only[if_pos hb];exact⟨v.T,v.O,rfl,rfl,by rw[← hs.tables,← hs.bK]⟩
 ·simp only[if_neg hb];by_cases hf:tQ s b=s.aU.fin
  ·simp only[if_pos hf];exact⟨v.T.map fun l=>rV l (rK s a).aG,v.O,by rw[e1,nA],rfl,by rw[← hs.bK]⟩
  ·simp only[if_neg hf];exact⟨v.T.map fun l=>rV l (rK s a).aG,v.O.map fun l=>l.filter fun x=>decide ((vO s (tQ s b).aG).1<x.slot),by rw[e1,nA],by rw[e2,nA],rfl⟩
theorem c15 (l:List Int) (k:Int) (a0 b0:dP) (hl:(l.length:Int)≤9223372036854775807) (ra0:Rg a0.aG) (rb0:Rg b0.aG):aB Tryz.prog 15 [.sl l.length (aK l),.v (.int .i64 k),.agg (aY a0),.agg (aY b0)]=some (.v (.bool true)):=by
 obtain⟨t,v,Q,R,hy,T⟩:=x24 l hl
 have k24:=kx hy (cU (Kx l)) T.td.flat
 have hs:=T.gi.sd
 have fs:=hs.flat
 obtain⟨kk,hkk⟩:∃kk,IntKind.i64.wrap ((BitVec.ofInt IntKind.i64.bits k &&& BitVec.ofInt IntKind.i64.bits 16777215).toNat:Int)=kk:=⟨_,rfl⟩
 obtain⟨y,hy2,a1,b1,rfl,ra1,rb1⟩:=x56 T.gi T.rg (kk.fdiv (2 ^ min 3 IntKind.i64.bits))
 have k56:=kx hy2 (bE fs (.v _)) (.eE _ (bE (.agg _ (bM a1)) (.agg _ (bM b1))))
 obtain⟨hB,L,hL,hL0⟩:=T.lists
 have Sx:v.L≠some []:=fun e=>hL0 (Option.some.inj (hL.symm.trans e))
 have UF:Rg t.store.now:=⟨T.rg.now.1,by have:=T.rg.now.2;omega⟩
 have aCv:=T.toTI0.iP
 have hnT:=T.gi.nT
 have hnTB:=T.gi.SP
 have main:∀a b:dP,Rg a.aG→Rg b.aG→∃(s1:aL) (x y:dP) (bb:Bool) (S1 S2:aL),
  (∀(st:St) (p g:Nat) (d:Option Nat),st.heap p g=some (.row 41 33 1 (aY a))→fF (aB Tryz.prog) 57 [.agg (aA t.store),.own p g] st d=some { dst:=d,val:=.agg (aA s1),dQ:=some (p,g,none)}) ∧
  (∀(st:St) (d:Option Nat),aN (aB Tryz.prog) 58 [.agg (aA s1),.agg (aY a),.agg (aY b)] st d=some { dst:=d,val:=.eE [.agg (aY x),.agg (aY y),.v (.bool bb)]}) ∧
  (∀(st:St) (d:Option Nat),aN (aB Tryz.prog) 59 [.agg (aA s1),.agg (aY a),.agg (aY b)] st d=some { dst:=d,val:=.eE [.agg (aY x),.agg (aY y),.v (.bool bb)]}) ∧
  (∀(st:St) (d:Option Nat),aN (aB Tryz.prog) 60 [.agg (aA s1),.agg (aY a),.agg (aY b)] st d=some { dst:=d,val:=.agg (aA S1)}) ∧
  (∀(st:St) (d:Option Nat),aN (aB Tryz.prog) 61 [.agg (aA s1),.agg (aY a),.agg (aY b)] st d=some { dst:=d,val:=.agg (aA S2)}) ∧
  (∀(st:St) (d:Option Nat),aN (aB Tryz.prog) 42 [.agg (aA S1),.agg (aA S2)] st d=some { dst:=d,val:=.v (.bool true)}):=by
  intro a b ra rb;obtain⟨z,hz,o,rfl,d1,n1⟩:=x57 hs (by omega) T.rg.ne aCv.1 (by omega) a [a] rfl
  obtain⟨s1,hs1⟩:∃s1,({ t.store with tables:=ov aI o }:aL)=s1:=⟨_,rfl⟩
  have sp1:1≤s1.cFg.kE∧s1.cFg.kE≤64:=by rw[← hs1];exact T.gi.kE
  have nw1:Rg s1.now:=by rw[← hs1];exact UF
  have j1:Rg s1.aU.gJ.aG:=by rw[← hs1];exact T.rg.j
  have f1:Rg s1.aU.fin.aG:=by rw[← hs1];exact T.rg.f
  rw[hs1] at hz d1;have fs1:=d1.flat
  obtain⟨o1,o2,e1,e2,e3⟩:=W6 d1 a b
  have hu2:=d1.dQ T.gi.up a b
  have h60:=c60 d1 T.gi.up (by rw[T.gi.DT];omega) sp1 nw1 j1 f1 n1 hB Sx T.gi.pos a b ra rb
  have k60:=kx h60 (mD fs1 (.agg _ (bM _)) (.agg _ (bM _))) (W5 hu2 o1 o2 e1 e3)
  have Rd:=k58 d1 T.gi.up sp1 nw1 j1 f1 a b ra rb
  have Js:=k59 d1 T.gi.up (by omega) a b
  have cv:∃(x y:dP) (bb:Bool),Jr s1 { v with T:=o } a b=.eE [.agg (aY x),.agg (aY y),.v (.bool bb)]:=by
   unfold Jr;split
   ·exact⟨_,_,_,rfl⟩
   ·exact⟨_,_,_,rfl⟩
  obtain⟨x,y,bb,hc⟩:=cv
  rw[hc] at Rd Js
  refine⟨s1,x,y,bb,_,_,fun st p g d hh=>?_,Rd,Js,k60,k61 d1 T.gi.up (by omega) a b,aSE hu2 o1 o2 e1 e2 e3⟩
  have hh':fO st (.own p g)=some (.sl [a].length (pG [a])):=by
   have:pG [a]=aY a:=by simp[pG]
   rw[this];exact Xz hh (bM _)
  rw[Nw (s:=p) (k:=g) (by rw[List.flatMap_cons,vQ fs];rfl) (by intro y hy;simp only[List.mem_cons,List.not_mem_nil,or_false] at hy;rcases hy with rfl|rfl;exact .inl fs;exact .inr (.inl ⟨p,g,rfl⟩)),List.map_cons,List.map_cons,List.map_nil,eB fs,hh',bN,bN,fR]
  exact MN hz fs1
 rw[cL Tryz.func15 rfl aSK rfl];refine iN ?_
 by_cases g:(0:Int)<IntKind.i64.wrap ((BitVec.ofInt IntKind.i64.bits kk &&& BitVec.ofInt IntKind.i64.bits 7).toNat:Int)
 ·obtain⟨s1,x,y,bb,S1,S2,k57,Rd,Js,aG7,D5,aG8⟩:=main a1 b1 ra1 rb1
  simp only[Z8,seval,k24,hkk,g,k56,dM,k57,Rd,Js,aG7,D5,aG8,VA,beB,beq_self_eq_true,k62,lS,lU];exact⟨_,bX rfl (by simp only[E8,seval]<;>rfl) (by first|exact .v _|simp only[dV]),rfl⟩
 ·obtain⟨s1,x,y,bb,S1,S2,k57,Rd,Js,aG7,D5,aG8⟩:=main a0 b0 ra0 rb0
  simp only[Z8,seval,k24,hkk,g,dM,k57,Rd,Js,aG7,D5,aG8,VA,beB,beq_self_eq_true,k62,lS,lU];exact⟨_,bX rfl (by simp only[E8,seval]<;>rfl) (by first|exact .v _|simp only[dV]),rfl⟩
end Go.Ab.Tryz
