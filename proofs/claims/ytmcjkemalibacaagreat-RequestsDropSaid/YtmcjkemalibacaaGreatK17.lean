/-
  Part 17 of the proof: an evaluator of programs, its soundness, and what functions of this program compute.
-/
import Derived.Test.YtmcjkemalibacaaGreatK16
import Derived.Test.YtmcjkemalibacaaGreatK14
import Derived.Test.YtmcjkemalibacaaGreatK13
set_option linter.all false
set_option maxRecDepth 20000
set_option maxHeartbeats 40000000
namespace Go.Ab.Tryz
open Classical Go.Proofs Go.Ab
def Xu (s g:Nat) (st st':St):Prop:=(∀x h,h<st.aP x→¬(x=s∧h=g)→st'.heap x h=st.heap x h)∧∀x,st.aP x≤st'.aP x
theorem Xu.refl (s g:Nat) (st:St):Xu s g st st:=⟨fun _ _ _ _=>rfl,fun _=>Nat.le_refl _⟩
theorem Xv:aE 0 1 (some 4)=[]∧aE 1 4 (some 8)=[]∧aE 2 2 (some 11)=[]∧aE 3 2 (some 13)=[]∧aE 4 3 (some 14)=[]∧aE 5 4 (some 16)=[]∧aE 6 3 (some 20)=[]∧aE 7 6 (some 22)=[]∧aE 8 4 (some 26)=[]∧aE 9 5 (some 30)=[]∧aE 10 3 (some 34)=[]∧aE 11 4 (some 36)=[]∧aE 12 4 (some 39)=[]:=⟨rfl,rfl,rfl,rfl,rfl,rfl,rfl,rfl,rfl,rfl,rfl,rfl,rfl⟩
structure KOk (K:St→Prop) (s g e sz:Nat) (cs:Nat→List AV→Prop):Prop where
 put:∀st d v,K (St.put st d v)=K st
 new:∀st x,K (St.new st 7 x)=K st
 set:∀st h x,K (St.iY st 7 h x)=K st
 back:∀a st,K (St.back a st)=K st
 row:∀st n C,cs n C→K st→K (St.iY st s g (some (.row e sz n C)))
theorem C0 {α:Type} {p:α→Bool} {l:List α} (h:∀j:Nat,j<l.length→∀hj:j<l.length,¬p l[j]=true):l.filter (fun x=>!p x)=l:=by
 refine List.filter_eq_self.2 fun x hx=>?_
 obtain⟨i,hi,rfl⟩:=List.getElem_of_mem hx
 simpa using h i hi hi
theorem UM {α:Type} {p:α→Bool} {l:List α} {k:Nat} (hk:k<l.length) (hp:p l[k]=true) (h:∀j:Nat,j<k→∀hj:j<l.length,¬p l[j]=true):(l.take (k+1)).filter (fun x=>!p x)=l.take k:=by
 rw[List.take_succ_eq_append_getElem hk,List.filter_append];have h1:(l.take k).filter (fun x=>!p x)=l.take k:=by
  refine List.filter_eq_self.2 fun x hx=>?_
  obtain⟨i,hi,rfl⟩:=List.getElem_of_mem hx
  rw[List.length_take] at hi;rw[List.getElem_take];simpa using h i (by omega) (by omega)
 simp[h1,hp]
theorem C1 {α:Type} {q:α→Bool} {l:List α} {k:Nat} (hk:k<l.length):(l.take (k+1)).filter q=(l.take k).filter q++(if q l[k]=true then [l[k]] else []):=by
 rw[List.take_succ_eq_append_getElem hk,List.filter_append];congr 1
 by_cases h:q l[k]=true<;>simp[h]
theorem aCv {α:Type} {p:α→Bool} {l:List α} {k:Nat} (hk:k<l.length) (hp:p l[k]=true):(l.filter (fun x=>!p x)).length<l.length:=by
 rcases Nat.lt_or_ge (l.filter (fun x=>!p x)).length l.length with h|h
 ·exact h
 ·have h2:=List.Sublist.eq_of_length_le (List.filter_sublist (p:=fun x=>!p x) (l:=l)) h
  have h3:=(List.filter_eq_self.1 h2) _ (List.getElem_mem hk)
  simp[hp] at h3
theorem aCw {α:Type} {z:α} {M L:List α} {j:Nat} (h:M.drop j=L.drop j):gx z M (j:Int)=gx z L (j:Int):=by
 have h1:(M.drop j)[0]? = (L.drop j)[0]?:=by rw[h]
 rw[List.getElem?_drop,List.getElem?_drop,Nat.add_zero] at h1;unfold gx;rw[Int.toNat_natCast,List.getD_eq_getElem?_getD,List.getD_eq_getElem?_getD,h1]
theorem Ob {α:Type} {M L:List α} {j:Nat} (h:M.drop j=L.drop j):M.drop (j+1)=L.drop (j+1):=by
 have:=congrArg (List.drop 1) h
 rwa [List.drop_drop,List.drop_drop] at this
theorem NK {α:Type} {z:α} {l:List α} {j:Nat} (h:j<l.length):gx z l (j:Int)=l[j]:=by
 unfold gx;rw[Int.toNat_natCast,List.getD_eq_getElem?_getD,List.getElem?_eq_getElem h];rfl
theorem U0 {α:Type} {M:List α} {k:Nat} (hk:k<M.length) (x:α):(M.set k x).take (k+1)=M.take k++[x]:=by
 rw[List.take_succ_eq_append_getElem (by rw[List.length_set];exact hk),List.take_set_of_le (Nat.le_refl _),List.getElem_set_self]
theorem set_drop {α:Type} {M:List α} {k j:Nat} (h:k<j) (x:α):(M.set k x).drop j=M.drop j:=by
 rw[List.drop_set_of_lt h]
theorem aMo (L:List Request) (hn:(L.length:Int)<1000000) (p:Request→Bool) (F s g a b:Nat) (h7:s≠7) (K:St→Prop) (hK:KOk K s g 63 35 (fun n C=>∃M:List Request,n=M.length∧M.length=L.length∧C=aA M))
 (Ag:∀x∈L,∀(st:St) (d:Option Nat),K st→aL (aC Tryz.prog) F ([.agg (bL x)]++[.ptr a b 0]) st d=some { dst:=d,val:=.v (.bool (p x))})
 (hix:∀(st:St) (d:Option Nat),K st→st.heap s g=some (.row 63 35 L.length (aA L))→aL (aC Tryz.prog) 77 [.own s g,.uO F [.ptr a b 0]] st d=some { dst:=d,val:=.v (.int .i64 (wI (fun k=>p (gx bN L k)=true) L.length))})
 (C2:St) (uQ:K C2) (hg:g<C2.aP s) (hh:C2.heap s g=some (.row 63 35 L.length (aA L))) :
 ∃st',if L.filter (fun x=>!p x)=L then sH Tryz.prog 90 [.own s g,.uO F [.ptr a b 0]] C2=some (.own s g,st')∧Xu s g C2 st'∧st'.heap s g=some (.row 63 35 L.length (aA L)) else
  sH Tryz.prog 90 [.own s g,.uO F [.ptr a b 0]] C2=some (.vw s g 0 (L.filter (fun x=>!p x)).length,st')∧Xu s g C2 st'∧∃Z,(∀c∈Z,Flat c)∧((aA (L.filter (fun x=>!p x)))++Z).length=L.length * 35∧st'.heap s g=some (.row 63 35 L.length (aA (L.filter (fun x=>!p x))++Z)):=by
 have hKp:=hK.put
 have hKn:=hK.new
 have hKs:=hK.set
 have hKb:=hK.back
 have s7:(s=7)=False:=eq_false h7
 have s7':(7=s)=False:=eq_false (fun e=>h7 e.symm)
 rcases vH (fun k=>p (gx bN L k)=true) L.length with ⟨e,hj⟩|⟨k,hk,hp,hj,e⟩
 ·have hf:L.filter (fun x=>!p x)=L:=C0 fun j h1 h2=>by have:=hj j h1;rwa [NK h2] at this
  rw[e] at hix;suffices h:∃r:AV × St,sH Tryz.prog 90 [.own s g,.uO F [.ptr a b 0]] C2=some r∧r.1=.own s g∧Xu s g C2 r.2∧r.2.heap s g=some (.row 63 35 L.length (aA L)) by
   obtain⟨⟨x,st'⟩,h1,h2,h3,h4⟩:=h
   obtain rfl:x=.own s g:=h2
   exact⟨st',by rw[if_pos hf];exact⟨h1,h3,h4⟩⟩
  rw[Jb Tryz.prog Tryz.func90 rfl (by kernel_rfl)]
  simp only[ZG,seval,Bool.false_and,Prod.mk.injEq,Xv,cE,bE,hKp,hKn,hKs,hKb,uQ,hh,hix];refine⟨_,Cx (P:=Tryz.prog) (fn:=Tryz.f90) (r:=.tmp 4) (x:=.own s g) (.inl rfl) rfl ?h1,rfl,⟨fun y h h1 h2=>?h2,fun y=>?h3⟩, ?h4⟩
  case h1=>rw[tU];simp only[bV,E8,seval]
  case h2=>simp only[E8,seval,bE,bB]
  case h3=>simp only[E8,seval,bE,bB];exact Nat.le_refl _
  case h4=>simp only[E8,seval,bE,bB,hh]
 ·have bA:=aCv (p:=p) hk (by have:=hp;rwa [NK hk] at this)
  have hf:¬L.filter (fun x=>!p x)=L:=fun e=>by rw[e] at bA;omega
  rw[e] at hix;suffices h:∃r:AV × St,sH Tryz.prog 90 [.own s g,.uO F [.ptr a b 0]] C2=some r∧r.1=.vw s g 0 (L.filter (fun x=>!p x)).length∧Xu s g C2 r.2∧∃Z,(∀c∈Z,Flat c)∧((aA (L.filter (fun x=>!p x)))++Z).length=L.length * 35∧r.2.heap s g=some (.row 63 35 L.length (aA (L.filter (fun x=>!p x))++Z)) by
   obtain⟨⟨x,st'⟩,h1,h2,h3⟩:=h
   obtain rfl:x=.vw s g 0 (L.filter (fun x=>!p x)).length:=h2
   exact⟨st',by rw[if_neg hf];exact⟨h1,h3⟩⟩
  have U1:¬(k:Int)=-1:=by omega
  have hw0:IntKind.i64.wrap ((k:Int)+1)=((k+1:Nat):Int):=by rw[pR _ (by omega) (by omega)];omega
  rw[Jb Tryz.prog Tryz.func90 rfl (by kernel_rfl)]
  simp only[ZG,seval,Bool.false_and,Prod.mk.injEq,Xv,cE,bE,hKp,hKn,hKs,hKb,uQ,hh,hix,bf U1,hw0];refine lJ (fun m st=>∃(j k':Nat) (M:List Request),((st.env 0=.own s g∧st.env 1=.uO F [.ptr a b 0]∧st.env 5=.v (.int .i64 (k':Nat))∧st.heap s g=some (.row 63 35 M.length (aA M))∧K st)∧st.env 6=.v (.int .i64 (j:Nat)))∧Xu s g C2 st∧M.length=L.length∧M.take k'=(L.take j).filter (fun x=>!p x)∧k'=((L.take j).filter (fun x=>!p x)).length∧M.drop j=L.drop j∧k'<j∧j≤L.length∧m=L.length-j)
   (fun e st=>e=.exit 0∧∃(k':Nat) (M:List Request),((st.env 0=.own s g∧st.env 1=.uO F [.ptr a b 0]∧st.env 5=.v (.int .i64 (k':Nat))∧st.heap s g=some (.row 63 35 M.length (aA M))∧K st))∧Xu s g C2 st∧M.length=L.length∧M.take k'=L.filter (fun x=>!p x)∧k'=(L.filter (fun x=>!p x)).length) (L.length-(k+1)) ?step ?start ?rest
  case step =>
   rintro m st ⟨j,k',M,hI,hF,hM,hT,UN,hD,hkj,M9,hm⟩
   by_cases Qh:(j:Int)<M.length
   case neg =>
    have hjn:j=L.length:=by omega
    subst hjn;rw[List.take_length] at hT UN
    apply FY (.exit 0)
    ·simp only[ZG,seval,Bool.false_and,Prod.mk.injEq,Xv,hI,Qh];rfl
    ·exact⟨rfl,k',M,by simp only[E8,seval,hKp,hI],⟨fun y h h1 h2=>by simp only[E8,seval];exact hF.1 y h h1 h2,fun y=>by simp only[E8,seval];exact hF.2 y⟩,hM,hT,UN⟩
   have hjL:j<L.length:=by omega
   have q0:(0:Int)≤j:=by omega
   have q1:(0:Int)≤k':=by omega
   have q2:(k':Int)<M.length:=by omega
   have q3:(k':Int).toNat<M.length:=by omega
   have hwj:IntKind.i64.wrap ((j:Int)+1)=((j+1:Nat):Int):=by rw[pR _ (by omega) (by omega)];omega
   have hwk:IntKind.i64.wrap ((k':Int)+1)=((k'+1:Nat):Int):=by rw[pR _ (by omega) (by omega)];omega
   have hx:=aCw (z:=bN) hD
   have hxe:=NK (z:=bN) hjL
   obtain⟨x,hxx⟩:∃x,L[j]=x:=⟨_,rfl⟩
   rw[hxe,hxx] at hx;have hxm:x∈L:=by rw[← hxx];exact List.getElem_mem _
   have kc:=Ag x hxm
   have ld1:tZ Tryz.prog 63 (some (.row 63 35 M.length (aA M))) ((j:Int).toNat * 35)=fD Tryz.prog 63 (bL x) 0:=by rw[vQ (k:=35) q0 Qh aCf (by decide) (by decide),hx]
   have st1:=C1 (q:=fun x=>!p x) hjL
   rw[hxx] at st1;have q4:(k':Int).toNat * 35+35≤M.length * 35:=by omega
   have aGs:∀uF:St,K uF→K (St.iY uF s g (some (.row 63 35 M.length (aA (M.set k' x))))):=fun uF=>hK.row uF _ _ ⟨M.set k' x,by rw[List.length_set],by rw[List.length_set];exact hM,rfl⟩
   by_cases hp':p x=true
   ·rw[hp'] at kc;simp only[hp',Bool.not_true,Bool.false_eq_true,if_false,List.append_nil] at st1;apply Ct (L.length-(j+1))
    ·simp only[ZG,seval,Bool.false_and,Prod.mk.injEq,Xv,hI,hKp,hKn,hKs,Qh,q0,ld1,kc,hwj,s7,s7'];rfl
    ·exact⟨j+1,k',M,by simp only[E8,seval,hI,hKp,hKn,hKs,s7,s7'],⟨fun y h h1 h2=>by
      have n7:(y=7∧h=st.aP 7)=False:=eq_false (by rintro⟨rfl,rfl⟩;have:=hF.2 7;omega)
      have ng:(y=s∧h=g)=False:=eq_false h2
      simp only[E8,seval,n7,ng,if_false];exact hF.1 y h h1 h2,fun y=>by
      have:=hF.2 y
      simp only[E8,seval];split<;>(try subst_vars)<;>omega⟩,hM,by rw[st1];exact hT,by rw[st1];exact UN,Ob hD,by omega,by omega,rfl⟩
   ·have hp2:p x=false:=by simpa using hp'
    rw[hp2] at kc;simp only[hp2,Bool.not_false,if_true] at st1;apply Ct (L.length-(j+1))
    ·simp only[ZG,seval,Bool.false_and,Prod.mk.injEq,Xv,hI,hKp,hKn,hKs,Qh,q0,q1,q2,q3,q4,ld1,kc,hwj,hwk,s7,s7'];rfl
    ·exact⟨j+1,k'+1,M.set k' x,by simp only[E8,seval,hI,hKp,hKn,hKs,s7,s7',aGs,List.length_set,Int.toNat_natCast],⟨fun y h h1 h2=>by
      have n7:(y=7∧h=st.aP 7)=False:=eq_false (by rintro⟨rfl,rfl⟩;have:=hF.2 7;omega)
      have ng:(y=s∧h=g)=False:=eq_false h2
      simp only[E8,seval,n7,ng,if_false];exact hF.1 y h h1 h2,fun y=>by
      have:=hF.2 y
      simp only[E8,seval];split<;>(try subst_vars)<;>omega⟩,by rw[List.length_set];exact hM,by rw[U0 (by omega),hT,st1],by rw[st1,List.length_append,← UN];rfl,by rw[set_drop (by omega)];exact Ob hD,by omega,by omega,rfl⟩
  case start =>
   have ff:=UM (p:=p) hk (by have:=hp;rwa [NK hk] at this) (fun j h1 h2=>by have:=hj j h1;rwa [NK h2] at this)
   exact⟨k+1,k,L,by simp only[E8,seval,cE,bE,hKp,hKn,hKs,hKb,uQ,hh],⟨fun y h h1 h2=>by simp only[E8,seval,bE],fun y=>by simp only[E8,seval,bB];exact Nat.le_refl _⟩,rfl,ff.symm,by rw[ff,List.length_take];omega,rfl,by omega,by omega,rfl⟩
  case rest =>
   rintro e st ⟨rfl,k',M,hI,hF,hM,hT,UN⟩
   have Eh:k'<M.length:=by omega
   have sv:∀(st:St) (lo:Operand),st.heap s g=some (.row 63 35 M.length (aA M))→st.ev lo=.v (.int .i64 k')→cW Tryz.prog st 54 (.own s g) (some lo) none=some (.vw s g (k' * 35) (M.length-k')):=fun st lo hh he=>by
    have h1:¬((k':Int)=M.length∧¬((k':Int)=0∧0<M.length)):=by omega
    have h2:(0:Int)≤k'∧(k':Int)≤M.length:=by omega
    have h3:((M.length:Int)-(k':Int)).toNat=M.length-k':=by omega
    simp only[cW,xX,hh,he,if_neg h1,h2,h3,Int.le_refl,and_self,if_true,Int.toNat_natCast]
   obtain⟨Z,cl,hZ,hZl⟩:∃Z,(∀st:St,st.heap s g=some (.row 63 35 M.length (aA M))→rV Tryz.prog st 54 (.vw s g (k' * 35) (M.length-k'))=some (some (s,g,.row 63 35 M.length (aA (M.take k')++Z))))∧(∀c∈Z,Flat c)∧Z.length=(M.length-k') * 35:=by
    refine⟨(List.range (M.length-k')).flatMap fun _=>wP.map AV.v,fun st hh=>?_,fun c hc=>?_, ?_⟩
    ·have hc:k' * 35+(M.length-k') * 35≤(aA M).length:=by rw[gO];omega
     simp only[rV,xX,T6,hh];rw[if_pos ⟨trivial,trivial,hc⟩];have hd:(aA M).drop (k' * 35+(M.length-k') * 35)=[]:=List.drop_of_length_le (by rw[gO];omega)
     rw[hd,List.append_nil];congr 5
     exact congrArg (· ++ _) (vZ (c:=bL) (sz:=35) fO M k')
    ·obtain⟨_,_,hc⟩:=List.mem_flatMap.1 hc
     obtain⟨x,_,rfl⟩:=List.mem_map.1 hc
     exact .v x
    ·have hv:(wP.map AV.v).length=35:=by kernel_rfl
     generalize M.length-k'=m
     induction m with
     | zero=>rfl
     | succ m ih=>rw[List.range_succ,List.flatMap_append,List.length_append,ih];simp only[List.flatMap_cons,List.flatMap_nil,List.append_nil,hv];omega
   have sv2:∀(st:St) (hi:Operand),st.heap s g=some (.row 63 35 M.length (aA (M.take k')++Z))→st.ev hi=.v (.int .i64 k')→cW Tryz.prog st 54 (.own s g) none (some hi)=some (.vw s g 0 k'):=fun st hi hh he=>by
    have h1:¬((0:Int)=k'∧¬((0:Int)=0∧0<M.length)):=by omega
    have h2:(0:Int)≤k'∧(k':Int)≤M.length:=by omega
    simp only[cW,xX,hh,he,if_neg h1,h2,Int.le_refl,and_self,if_true];simp
    intro h3 h4;rw[h4] at Eh;simp at Eh
   simp only[ZG,seval,Bool.false_and,Prod.mk.injEq,Xv,hI,sv,cl,sv2,NG];refine⟨_,Cx (P:=Tryz.prog) (fn:=Tryz.f90) (r:=.tmp 4) (x:=.vw s g 0 k') (.inl rfl) rfl ?h1,by rw[UN],⟨fun y h h1 h2=>?h2,fun y=>?h3⟩,Z,hZ, ?h4, ?h5⟩
   case h1=>rw[tU];simp only[bV,E8,seval]
   case h2 =>
    have ng:(y=s∧h=g)=False:=eq_false h2
    simp only[E8,seval,ng,if_false];exact hF.1 y h h1 h2
   case h3=>simp only[E8,seval];exact hF.2 y
   case h4=>rw[List.length_append,gO,hZl,← UN,hM,← Nat.add_mul];congr 1;omega
   case h5=>simp only[E8,seval,hT,hM]
theorem U2 {st:St} {s g e sz n k:Nat} {cs Z:List AV} (h:st.heap s g=some (.row e sz n (cs++Z))) (hc:cs.length=k * sz) (hn:(cs++Z).length=n * sz) (hz:∀c∈cs,Flat c) (hZ:∀c∈Z,Flat c) (U3:0<sz):cA st (.vw s g 0 k)=some (.sl k cs):=by
 have hnf:¬Flat (.vw s g 0 k):=by intro h;cases h
 have hf:(∀c∈cs++Z,Flat c)∧0+k * sz≤(cs++Z).length:=⟨fun c hc=>(List.mem_append.1 hc).elim (hz c) (hZ c),by rw[List.length_append];omega⟩
 unfold cA;rw[if_neg hnf];simp only[h];rw[if_pos hf,List.drop_zero,← hc,List.take_left]
theorem c88 {t:State} {ns:List Node} (ht:t.store.tree=⟨.sl ns.length (cD ns)⟩) (hn:(ns.length:Int)<1000000) (x:Request):aC Tryz.prog 88 [.agg (bL x),.ip (aF t) 0]=some (.v (.bool (decide (aN ns x.block<0)))):=by
 rw[cL Tryz.func88 rfl aRx rfl];refine jG ?_
 by_cases g:aN ns x.block<0
 ·simp only[Z8,seval,ht,k89 _ _ hn,g,decide_true];exact⟨_,bW rfl (by simp only[E8,seval]<;>rfl) (by first|exact .v _|simp only[dW]),rfl⟩
 ·simp only[Z8,seval,ht,k89 _ _ hn,g,decide_false];exact⟨_,bW rfl (by simp only[E8,seval]<;>rfl) (by first|exact .v _|simp only[dW]),rfl⟩
def NI (y:AV):Prop:=∀a o,y≠.ip a o
theorem NI.mem {y:AV} (h:dY y):NI y:=fun a o e=>by rw[e] at h;cases h
theorem U4 {st:St} {c y:AV} (h:cA st c=some y) (hy:NI y):qA st c=some y:=by
 by_cases hf:Flat c
 ·rw[cO hf] at h;rw[NL hf,h]
 unfold cA at h;rw[if_neg hf] at h;unfold qA;rw[if_neg hf];cases c with
 | own s g=>exact h
 | vw s g o n=>exact h
 | ptr s g o =>
   simp only at h
   split at h
   ·rename_i cs _;cases h2:cC (cs.map (qA st)) with
    | none=>rw[h2] at h;cases h
    | some ds=>rw[h2] at h;exact absurd (Option.some.inj h).symm (hy ds o)
   ·cases h
 | _=>first|exact h|cases h
theorem EO {st:St}:∀ {cs ys:List AV},Qg st cs=some ys→(∀y∈ys,NI y)→cC (cs.map (qA st))=some ys
 | [],ys,h,_=>by
   have:ys=[]:=by simpa [Qg,cC] using h.symm
   rw[this];rfl
 | c :: cs,ys,h,hy=>by
   unfold Qg at h;rw[List.map_cons] at h;cases h1:cA st c with
   | none=>rw[h1] at h;cases h
   | some y =>
     rw[h1] at h;simp only[cC] at h;cases h2:cC (cs.map (cA st)) with
     | none=>rw[h2] at h;cases h
     | some zs =>
       rw[h2] at h;have e:ys=y :: zs:=(Option.some.inj h).symm
       subst e;rw[List.map_cons,U4 h1 (hy y (by simp))]
       have ih:=EO (st:=st) (cs:=cs) (ys:=zs) h2 (fun z hz=>hy z (by simp[hz]))
       simp only[cC,ih,Option.map_some]
theorem NM {α:Type} (c:List α→List AV) (o:Option (List α)):NI (ov c o):=by
 cases o<;>exact fun a o e=>by cases e
theorem aGt {a b:List AV} (h1:∀y∈a,NI y) (h2:∀y∈b,NI y):∀y∈a++b,NI y:=fun y hy=>(List.mem_append.1 hy).elim (h1 y) (h2 y)
theorem HC {x:AV} (h:NI x):∀y∈[x],NI y:=fun y hy=>by rw[List.mem_singleton.1 hy];exact h
theorem Lr {l:List AV} (h:∀y∈l,dY y):∀y∈l,NI y:=fun y hy=>.mem (h y hy)
theorem U5 {t:State} {v:SV} (hs:SD t.store v) {q r:AV} (hq:NI q) (hr:NI r):∀y∈aF (Mr t t.store q r),NI y:=by
 simp only[Mr,aF,aB,bU,eX,jO,mM,hs.jN,hs.dQ,hs.gZ,hs.early,hs.bX,hs.tree,hs.tables];repeat' (first
  | exact Lr (Hl _)|exact Lr (C3 _)|exact Lr (yO _)|exact Lr (C4 _)|exact Lr (NN _)|exact Lr (BE _)|exact Lr (HD _)
  | exact HC (NM _ _)|exact HC hq|exact HC hr|exact HC (fun a o e=>by cases e)|refine aGt ?_ ?_)
def NO (t:State) (v:SV) (Xq Xr:AV):State:=Mr t (SE t.store v 6 0) Xq Xr
def KD (t:State) (v:SV) (Xq Xr:AV) (st:St):Prop:=st.heap 3 0=some (.cells (aF (NO t v Xq Xr)))∧(∀j,j<nS v→st.heap 6 j=(Dy v)[j]?)∧(∃q,cA st Xq=some q∧NI q∧Flat q)∧∃r,cA st Xr=some r∧NI r∧Flat r
theorem KD.ip {t:State} {v:SV} {Q R:Option (List Request)} (hT:TD t v Q R) {Xq Xr:AV} {st:St} (h:KD t v Xq Xr st):∃T:State,T.store=t.store∧Flat (.agg (aF T))∧cC ((aF (NO t v Xq Xr)).map (qA st))=some (aF T):=by
 obtain⟨h1,h2,⟨q,hq,nq,fq⟩,r,hr,nr,fr⟩:=h
 have hs:=hT.sd
 have e:=UK (t:=t) (v:=v) hs (d:=6) (c:=0) (q:=Xq) (r:=Xr) (fun j hj=>by rw[Nat.zero_add];exact h2 j hj) hq hr
 rw[bR] at e;have e1:Qg st (aF (NO t v Xq Xr))=some (aF (Mr t t.store q r)):=by
  cases h3:Qg st (aF (NO t v Xq Xr)) with
  | none=>rw[show Qg st (aF (Mr t (SE t.store v 6 0) Xq Xr))=none from h3] at e;cases e
  | some z =>
    rw[show Qg st (aF (Mr t (SE t.store v 6 0) Xq Xr))=some z from h3] at e;injection e with e
    injection e with e
    rw[e]
 have iX:=hT.fl
 exact⟨Mr t t.store q r,rfl,(mN _).2 ⟨iX.1,iX.2.1,iX.2.2.1,iX.2.2.2.1,iX.2.2.2.2.1,iX.2.2.2.2.2.1,iX.2.2.2.2.2.2.1,fq,fr⟩,EO e1 (U5 hs nq nr)⟩
theorem KD.call {t:State} {v:SV} {Q R:Option (List Request)} (hT:TD t v Q R) {Xq Xr:AV} {st:St} (h:KD t v Xq Xr st) (x:Request) (d:Option Nat):aL (aC Tryz.prog) 88 ([.agg (bL x)]++[.ptr 3 0 0]) st d=some { dst:=d,val:=.v (.bool (decide (aN v.ns x.block<0)))}:=by
 obtain⟨T,eT,fT,e2⟩:=h.ip hT
 have e3:fK st (.ptr 3 0 0)=some (.ip (aF T) 0):=by
  unfold fK;rw[if_neg (xT 3 0 0)];show cA st (.ptr 3 0 0)=_
  unfold cA;rw[if_neg (xT 3 0 0)];simp only[h.1,e2,Option.map_some]
 rw[lF,List.singleton_append,List.map_cons,List.map_cons,List.map_nil,dP (.agg _ (fQ x)),e3,bP,bP,gL];exact GU (c88 (t:=T) (ns:=v.ns) (by rw[eT];exact hT.sd.tree) hT.sd.nn x)
theorem KD.idx {t:State} {v:SV} {Q R:Option (List Request)} (hT:TD t v Q R) {Xq Xr:AV} {st:St} (h:KD t v Xq Xr st) (o:Option (List Request)) (hn:((ol o).length:Int)<1000000) (Y:AV) (hY:fK st Y=some (ov aA o)) (d:Option Nat):aL (aC Tryz.prog) 77 [Y,.uO 88 [.ptr 3 0 0]] st d=some { dst:=d,val:=.v (.int .i64 (wI (fun k=>(fun x:Request=>decide (aN v.ns x.block<0)) (gx bN (ol o) k)=true) (ol o).length))}:=by
 obtain⟨T,eT,fT,e2⟩:=h.ip hT
 have fI:Flat (.ip (aF T) 0):=.ip _ _ (by cases fT with|agg _ h=>exact h)
 rw[lF,List.map_cons,List.map_cons,List.map_nil,hY,Cn,h.1,show Nh st (some (.cells (aF (NO t v Xq Xr)))) 0=some (.ip (aF T) 0) from by unfold Nh;simp only[e2,Option.map_some],Option.map_some,bP,bP,gL]
 exact Ss (aRu o hn 88 [.ip (aF T) 0] (fun x=>decide (aN v.ns x.block<0)) (fun x _ st d=>bK (bH (.agg _ (fQ x)) fI) (c88 (t:=T) (ns:=v.ns) (by rw[eT];exact hT.sd.tree) hT.sd.nn x) (.v _)))
def Ref (X:AV) (g n:Nat):Prop:=X=.v (.slice none 0 0)∨X=.own 6 g∨∃k,k≤n∧X=.vw 6 g 0 k
theorem Eu {X:AV} {g n:Nat} (h:Ref X g n) {st uF:St} (e:uF.heap 6 g=st.heap 6 g):cA uF X=cA st X:=by
 rcases h with rfl|rfl|⟨k,_,rfl⟩
 ·rw[cO (.v _),cO (.v _)]
 ·rw[bG,bG,e]
 ·unfold cA;have hf:¬Flat (.vw 6 g 0 k):=by intro h;cases h
  rw[if_neg hf,if_neg hf];simp only[e]
theorem EP {X:AV} {g n:Nat} (h:Ref X g n) {st:St} {M:List Request} (hn:n≤M.length) (e:st.heap 6 g=some (.row 63 35 M.length (aA M))):∃q,cA st X=some q∧NI q∧Flat q:=by
 rcases h with rfl|rfl|⟨k,hk,rfl⟩
 ·exact⟨_,cO (.v _),(fun a o e=>by cases e),.v _⟩
 ·exact⟨_,Go.Ab.jJ e (dX M),(fun a o e=>by cases e),.sl _ _ (dX M)⟩
 ·have hf:¬Flat (.vw 6 g 0 k):=by intro h;cases h
  have hc:(∀c∈aA M,Flat c)∧0+k * 35≤(aA M).length:=⟨dX M,by rw[gO];omega⟩
  refine⟨_,by unfold cA;rw[if_neg hf];simp only[e];rw[if_pos hc],(fun a o e=>by cases e),.sl _ _ fun c h=>dX M c (List.mem_of_mem_drop (List.mem_of_mem_take h))⟩
theorem KD.ok {t:State} {v:SV} {Xq Xr:AV} {L:List Request} {g gq gr nq nr:Nat} (hq:Ref Xq gq nq) (hr:Ref Xr gr nr) (hg:nS v≤g) (hc:(g=gq→nq≤L.length)∧(g=gr→nr≤L.length)):KOk (KD t v Xq Xr) 6 g 63 35 (fun n C=>∃M:List Request,n=M.length∧M.length=L.length∧C=aA M):=by
 have n36:((3:Nat)=6)=False:=eq_false (by decide)
 have n37:((3:Nat)=7)=False:=eq_false (by decide)
 have n67:((6:Nat)=7)=False:=eq_false (by decide)
 have C5:∀st uF:St,uF.heap 3 0=st.heap 3 0→(∀j,uF.heap 6 j=st.heap 6 j)→KD t v Xq Xr uF=KD t v Xq Xr st:=fun st uF h3 h6=>by
  unfold KD;simp only[h3,h6,Eu hq (h6 gq),Eu hr (h6 gr)]
 refine⟨fun st d y=>C5 _ _ (by rw[Xw]) (fun j=>by rw[Xw]),fun st x=>C5 _ _ (by simp only[Xx,n37,false_and,if_false]) (fun j=>by simp only[Xx,n67,false_and,if_false]),fun st h x=>C5 _ _ (by simp only[yP,n37,false_and,if_false]) (fun j=>by simp only[yP,n67,false_and,if_false]),fun a st=>C5 _ _ (by rw[bE]) (fun j=>by rw[bE]), ?_⟩
 rintro st n C ⟨M,rfl,hM,rfl⟩ ⟨h1,h2,h3,h4⟩
 have hh:(St.iY st 6 g (some (.row 63 35 M.length (aA M)))).heap 6 g=some (.row 63 35 M.length (aA M)):=by simp only[yP,and_self,if_true]
 have ho:∀j,j≠g→(St.iY st 6 g (some (.row 63 35 M.length (aA M)))).heap 6 j=st.heap 6 j:=fun j hj=>by
  have M9:(j=g)=False:=eq_false hj
  simp only[yP,M9,and_false,if_false]
 refine⟨by simp only[yP,n36,false_and,if_false];exact h1,fun j hj=>by rw[ho j (by omega)];exact h2 j hj, ?_, ?_⟩
 ·by_cases e:g=gq
  ·subst e;exact EP hq (by rw[hM];exact hc.1 rfl) hh
  ·rw[Eu hq (ho gq (fun h=>e h.symm))];exact h3
 ·by_cases e:g=gr
  ·subst e;exact EP hr (by rw[hM];exact hc.2 rfl) hh
  ·rw[Eu hr (ho gr (fun h=>e h.symm))];exact h4
theorem aGu {t:State} {v:SV} {Q R:Option (List Request)} (hT:TD t v Q R) {Xq Xr:AV} (L:List Request) (hn:(L.length:Int)<1000000) {g gq gr nq nr:Nat} (hq:Ref Xq gq nq) (hr:Ref Xr gr nr) (hg:nS v≤g) (hc:(g=gq→nq≤L.length)∧(g=gr→nr≤L.length)) :
 ∃(X:AV) (G:St→St),(X.cells=[X]∧X.jD=true∧Ref X g L.length)∧∀st,KD t v Xq Xr st→st.heap 6 g=some (.row 63 35 L.length (aA L))→g<st.aP 6 →
  sH Tryz.prog 90 [.own 6 g,.uO 88 [.ptr 3 0 0]] st=some (X,G st)∧Xu 6 g st (G st)∧∃Rw,(G st).heap 6 g=some Rw∧∀uF:St,uF.heap 6 g=some Rw→cA uF X=some (ov aA (some (jI v.ns L))):=by
 obtain⟨p,hp⟩:∃p:Request→Bool,p=fun x=>decide (aN v.ns x.block<0):=⟨_,rfl⟩
 have eK:L.filter (fun x=>!p x)=jI v.ns L:=by
  unfold jI;rw[hp];congr 1
  funext x
  simp only[← decide_not,Int.not_lt]
 have key:∀st:St,∃st',KD t v Xq Xr st→st.heap 6 g=some (.row 63 35 L.length (aA L))→g<st.aP 6 →
  (if L.filter (fun x=>!p x)=L then sH Tryz.prog 90 [.own 6 g,.uO 88 [.ptr 3 0 0]] st=some (.own 6 g,st')∧Xu 6 g st st'∧st'.heap 6 g=some (.row 63 35 L.length (aA L)) else
   sH Tryz.prog 90 [.own 6 g,.uO 88 [.ptr 3 0 0]] st=some (.vw 6 g 0 (L.filter (fun x=>!p x)).length,st')∧Xu 6 g st st'∧∃Z,(∀c∈Z,Flat c)∧((aA (L.filter (fun x=>!p x)))++Z).length=L.length * 35∧st'.heap 6 g=some (.row 63 35 L.length (aA (L.filter (fun x=>!p x))++Z))):=by
  intro st;by_cases hy:KD t v Xq Xr st∧st.heap 6 g=some (.row 63 35 L.length (aA L))∧g<st.aP 6
  case neg=>exact⟨st,fun h1 h2 h3=>absurd ⟨h1,h2,h3⟩ hy⟩
  obtain⟨st',h⟩:=aMo L hn p 88 6 g 3 0 (by decide) (KD t v Xq Xr) (KD.ok hq hr hg hc)
   (fun x _ uF d hk=>by rw[hp];exact hk.call hT x d)
   (fun uF d hk hh=>by rw[hp];exact hk.idx hT (some L) hn (.own 6 g) (NJ hh (dX L)) d)
   st hy.1 hy.2.2 hy.2.1
  exact⟨st',fun _ _ _=>h⟩
 by_cases hf:L.filter (fun x=>!p x)=L
 ·refine⟨.own 6 g,fun st=>Classical.choose (key st),⟨rfl,rfl,.inr (.inl rfl)⟩,fun st h1 h2 h3=>?_⟩
  have h:=Classical.choose_spec (key st) h1 h2 h3
  rw[if_pos hf] at h;refine⟨h.1,h.2.1,_,h.2.2,fun uF h=>?_⟩
  rw[← eK,hf];exact Go.Ab.jJ h (dX L)
 ·refine⟨.vw 6 g 0 (L.filter (fun x=>!p x)).length,fun st=>Classical.choose (key st),⟨rfl,rfl,.inr (.inr ⟨_,List.length_filter_le _ _,rfl⟩)⟩,fun st h1 h2 h3=>?_⟩
  have h:=Classical.choose_spec (key st) h1 h2 h3
  rw[if_neg hf] at h;obtain⟨e1,e2,Z,hZ,hl,e3⟩:=h
  refine⟨e1,e2,_,e3,fun uF h=>?_⟩
  rw[← eK];exact U2 h (gO _) hl (dX _) hZ (by decide)
theorem aGv {t:State} {v:SV} {Q R:Option (List Request)} (hT:TD t v Q R) (Xq Xr:AV):∃G:St→St,∀st:St,KD t v Xq Xr st →
 sH Tryz.prog 90 [.v (.slice none 0 0),.uO 88 [.ptr 3 0 0]] st=some (.v (.slice none 0 0),G st)∧Gb st (G st):=by
 have key:∀st:St,∃st',KD t v Xq Xr st→sH Tryz.prog 90 [.v (.slice none 0 0),.uO 88 [.ptr 3 0 0]] st=some (.v (.slice none 0 0),st')∧Gb st st':=by
  intro st;by_cases hk:KD t v Xq Xr st
  case neg=>exact⟨st,fun h=>absurd h hk⟩
  have C5:∀uF:St,uF.heap=st.heap→KD t v Xq Xr uF:=fun uF h=>by
   obtain⟨h1,h2,⟨q,hq,h3⟩,r,hr,h4⟩:=hk
   have e:∀X,cA uF X=cA st X:=fun X=>by
    have:qA uF=qA st:=by funext x;unfold qA;rw[h]
    unfold cA;rw[h,this]
   exact⟨by rw[h];exact h1,fun j hj=>by rw[h];exact h2 j hj,⟨q,by rw[e];exact hq,h3⟩,r,by rw[e];exact hr,h4⟩
  have hix:∀(uF:St) (d:Option Nat),uF.heap=st.heap→aL (aC Tryz.prog) 77 [.v (.slice none 0 0),.uO 88 [.ptr 3 0 0]] uF d=some { dst:=d,val:=.v (.int .i64 (-1))}:=fun uF d h=>(C5 uF h).idx hT none (by decide) (.v (.slice none 0 0)) (Ld _ _) d
  have hp:∀(uF:St) d y,(St.put uF d y).heap=uF.heap:=fun uF d y=>by cases d<;>rfl
  rw[Jb Tryz.prog Tryz.func90 rfl (by kernel_rfl)]
  simp only[ZG,seval,Bool.false_and,Prod.mk.injEq,Xv,cE,bE,hp,hix];exact⟨_,fun _=>⟨Cx (P:=Tryz.prog) (fn:=Tryz.f90) (r:=.tmp 4) (x:=.v (.slice none 0 0)) (.inl rfl) rfl (by rw[tU];simp only[bV,E8,seval]),fun y h h1=>by simp only[E8,seval,bE],fun y=>by simp only[E8,seval,bB];exact Nat.le_refl _⟩⟩
 exact⟨fun st=>Classical.choose (key st),fun st h=>Classical.choose_spec (key st) h⟩
theorem NP {P:Program} {g:Nat} {args:List AV} {st:St} {β:Type} {k:AV × St→Option β} {R:β→Prop} (X:AV) (Pre:St→Prop) (Q:St→St→Prop) (h:∀st,Pre st→∃st',sH P g args st=some (X,st')∧Q st st') (hp:Pre st)
 (rest:∀st',Q st st'→∃r,k (X,st')=some r∧R r):∃r,cN (sH P g args st) k=some r∧R r:=by
 obtain⟨st',h1,h2⟩:=h st hp
 rw[h1];exact rest st' h2
theorem U6 {t:State} {v:SV} {Q R:Option (List Request)} (hT:TD t v Q R) {Xq Xr:AV} (o:Option (List Request)) (hn:((ol o).length:Int)<1000000) {g gq gr nq nr:Nat} (hq:Ref Xq gq nq) (hr:Ref Xr gr nr) (hg:nS v≤g) (hc:o≠none→(g=gq→nq≤(ol o).length)∧(g=gr→nr≤(ol o).length)) :
 ∃(X:AV) (G:St→St),(X.cells=[X]∧X.jD=true∧Ref X g (ol o).length)∧∀st,KD t v Xq Xr st∧(∀l,o=some l→st.heap 6 g=some (.row 63 35 l.length (aA l))∧g<st.aP 6) →
  sH Tryz.prog 90 [rv 6 g o,.uO 88 [.ptr 3 0 0]] st=some (X,G st)∧((∀x h,h<st.aP x→¬(o≠none∧x=6∧h=g)→(G st).heap x h=st.heap x h)∧∀x,st.aP x≤(G st).aP x)∧∃Rw,(o≠none→(G st).heap 6 g=Rw)∧∀uF:St,(o≠none→uF.heap 6 g=Rw)→cA uF X=some (ov aA (o.map fun l=>jI v.ns l)):=by
 cases o with
 | none =>
   obtain⟨G,hG⟩:=aGv hT Xq Xr
   exact⟨.v (.slice none 0 0),G,⟨rfl,rfl,.inl rfl⟩,fun st h=>⟨(hG st h.1).1,⟨fun x k hk _=>(hG st h.1).2.1 x k hk,(hG st h.1).2.2⟩,none,fun h=>absurd rfl h,fun uF _=>cO (.v _)⟩⟩
 | some L =>
   obtain⟨X,G,hX,hG⟩:=aGu hT L hn hq hr hg (hc nofun)
   refine⟨X,G,hX,fun st h=>?_⟩
   obtain⟨h1,h2,Rw,h3,h4⟩:=hG st h.1 (h.2 L rfl).1 (h.2 L rfl).2
   exact⟨h1,⟨fun x k hk gW=>h2.1 x k hk fun e=>gW ⟨nofun,e⟩,h2.2⟩,some Rw,fun _=>h3,fun uF h=>h4 uF (h nofun)⟩
theorem aGw:aE 0 2 (some 1)=[]∧aE 1 4 (some 5)=[]∧aE 2 2 (some 7)=[]∧aE 3 6 (some 8)=[]∧aE 4 6 (some 13)=[]∧aE 5 2 (some 18)=[]:=⟨rfl,rfl,rfl,rfl,rfl,rfl⟩
theorem c35 {t:State} {v:SV} {Q R:Option (List Request)} (h:TD t v Q R) (gW:NEv v) (hB:v.B≠some []) (hL:v.L≠some []) (ht:0<v.ns.length) (hQ:Q≠some []) (hR:R≠some []):aC Tryz.prog 35 [.agg (aF t)]=some (.agg (aF { t with dN:=ov aA (Q.map fun l=>jI v.ns l),kH:=ov aA (R.map fun l=>jI v.ns l)})):=by
 have k80':=k80 h gW hB hL ht hQ hR
 have nQ:((ol Q).length:Int)<1000000:=by have:=h.nQ;omega
 have nRR:((ol R).length:Int)<1000000:=by have:=h.nR;omega
 have rf:∀(o:Option (List Request)) (g:Nat),Ref (rv 6 g o) g (ol o).length:=fun o g=>by cases o;exact .inl rfl;exact .inr (.inl rfl)
 have hnR:nS v≤nR v Q:=by unfold nR;omega
 have aGx:Q≠none→nS v<nR v Q:=fun hq=>by
  cases Q with
  | none=>exact absurd rfl hq
  | some l=>show nS v<nS v+1;omega
 obtain⟨X1,G1,⟨x1c,x1s,x1r⟩,hG1⟩:=U6 h (Xq:=rv 6 (nS v) Q) (Xr:=rv 6 (nR v Q) R) Q nQ (rf Q (nS v)) (rf R (nR v Q)) (Nat.le_refl _) fun hq=>⟨fun _=>Nat.le_refl _,fun e=>by have:=aGx hq;omega⟩
 obtain⟨X2,G2,⟨x2c,x2s,x2r⟩,Qf⟩:=U6 h (Xq:=X1) (Xr:=rv 6 (nR v Q) R) R nRR x1r (rf R (nR v Q)) hnR fun _=>⟨fun e=>by
  cases Q with
  | none=>exact Nat.zero_le _
  | some l=>exact absurd e (by show ¬nS v+1=nS v;omega),fun _=>Nat.le_refl _⟩
 have hz:cpT t v Q R 6 0=NO t v (rv 6 (nS v) Q) (rv 6 (nR v Q) R):=by unfold cpT NO;rw[Nat.zero_add,Nat.zero_add]
 have q1:∀a b,(NO t v a b).dN=a:=fun a b=>rfl
 have q2:∀a b,(NO t v a b).kH=b:=fun a b=>rfl
 have lt:nS v≤(Ve v Q R).length:=by unfold Ve;rw[List.length_append];exact Nat.le_add_right _ _
 have lQ:∀l,Q=some l→nS v<(Ve v Q R).length:=fun l hl=>(List.getElem?_eq_some_iff.1 (aGn v Q R l hl)).1
 have lR:∀l,R=some l→nR v Q<(Ve v Q R).length:=fun l hl=>(List.getElem?_eq_some_iff.1 (aCs v Q R l hl)).1
 rw[cG Tryz.func35 rfl aRy (by kernel_rfl) rfl]
 refine jG ?_
 simp only[ZG,seval,Bool.false_and,Prod.mk.injEq,aGw,k80',NH,NW,hz,q1,q2];have xR:∀uF:St,(∀l,R=some l→uF.heap 6 (nR v Q)=some (.row 63 35 l.length (aA l)))→cA uF (rv 6 (nR v Q) R)=some (ov aA R):=fun uF hh=>pO hh fun l _=>dX l
 have xQ:∀uF:St,(∀l,Q=some l→uF.heap 6 (nS v)=some (.row 63 35 l.length (aA l)))→cA uF (rv 6 (nS v) Q)=some (ov aA Q):=fun uF hh=>pO hh fun l _=>dX l
 refine NP X1 (fun st=>(st.heap 3 0=some (.cells (aF (NO t v (rv 6 (nS v) Q) (rv 6 (nR v Q) R))))∧(∀j,j<nS v→st.heap 6 j=(Dy v)[j]?)∧(∀l,Q=some l→st.heap 6 (nS v)=some (.row 63 35 l.length (aA l)))∧(∀l,R=some l→st.heap 6 (nR v Q)=some (.row 63 35 l.length (aA l))))∧(∀l,Q=some l→nS v<st.aP 6))
  (fun st st'=>((∀x h,h<st.aP x→¬(Q≠none∧x=6∧h=nS v)→st'.heap x h=st.heap x h)∧∀x,st.aP x≤st'.aP x)∧∃Rw,(Q≠none→st'.heap 6 (nS v)=Rw)∧∀uF:St,(Q≠none→uF.heap 6 (nS v)=Rw)→cA uF X1=some (ov aA (Q.map fun l=>jI v.ns l)))
  (fun st hp=>⟨_,hG1 st ⟨⟨hp.1.1,hp.1.2.1,⟨_,xQ st hp.1.2.2.1,NM _ _,cH Q⟩,_,xR st hp.1.2.2.2,NM _ _,cH R⟩,fun l hl=>⟨hp.1.2.2.1 l hl,hp.2 l hl⟩⟩⟩) ⟨⟨?p1, ?p2, ?p3, ?p4⟩, ?p5⟩ ?rest
 case p1=>simp only[E8,seval,NW]<;>rfl
 case p2 =>
  intro j hj;have lj:j<(Ve v Q R).length:=by omega
  simp only[E8,seval,NW,true_and,Nat.zero_le,Nat.sub_zero,lj,if_true,aGm v Q R j hj]
 case p3 =>
  intro l hl;have lj:=lQ l hl
  simp only[E8,seval,NW,true_and,Nat.zero_le,Nat.sub_zero,lj,if_true,aGn v Q R l hl]
 case p4 =>
  intro l hl;have lj:=lR l hl
  simp only[E8,seval,NW,true_and,Nat.zero_le,Nat.sub_zero,lj,if_true,aCs v Q R l hl]
 case p5 =>
  intro l hl;have lj:=lQ l hl
  simp only[E8,seval,NW]<;>omega
 case rest =>
  rintro st' ⟨hF,Rw,hRw,EE⟩
  have e3:st'.heap 3 0=some (.cells (aF (NO t v (rv 6 (nS v) Q) (rv 6 (nR v Q) R)))):=(hF.1 3 0 (by simp only[E8,seval,NW]<;>omega) (by omega)).trans (by simp only[E8,seval,NW]<;>rfl)
  have e2:st'.heap 2 0=some (.cells (aF jR)):=(hF.1 2 0 (by simp only[E8,seval,NW]<;>omega) (by omega)).trans (by simp only[E8,seval,NW]<;>rfl)
  have er:∀j,j<nS v→st'.heap 6 j=(Dy v)[j]?:=fun j hj=>(hF.1 6 j (by have:j<(Ve v Q R).length:=(by omega);simp only[E8,seval,NW];exact this) (by omega)).trans (by
   have lj:j<(Ve v Q R).length:=by omega
   simp only[E8,seval,NW,true_and,Nat.zero_le,Nat.sub_zero,lj,if_true,aGm v Q R j hj])
  have eR:∀l,R=some l→st'.heap 6 (nR v Q)=some (.row 63 35 l.length (aA l)):=fun l hl=>(hF.1 6 (nR v Q) (by have:=lR l hl;simp only[E8,seval,NW];exact this) (fun e=>by have:=aGx e.1;omega)).trans (by
   have lj:=lR l hl
   simp only[E8,seval,NW,true_and,Nat.zero_le,Nat.sub_zero,lj,if_true,aCs v Q R l hl])
  have g2:0<st'.aP 2:=Nat.lt_of_lt_of_le (by simp only[E8,seval,NW]<;>omega) (hF.2 2)
  have g3:0<st'.aP 3:=Nat.lt_of_lt_of_le (by simp only[E8,seval,NW]<;>omega) (hF.2 3)
  have g6:(Ve v Q R).length≤st'.aP 6:=Nat.le_trans (by simp only[E8,seval,NW]<;>exact Nat.le_refl _) (hF.2 6)
  clear hF
  have u1:∀a b c,({ NO t v a b with dN:=c }:State)=NO t v c b:=fun a b c=>rfl
  have u2:∀a b c,({ NO t v a b with kH:=c }:State)=NO t v a c:=fun a b c=>rfl
  simp only[ZG,seval,Bool.false_and,Prod.mk.injEq,aGw,NW,cE,bE,bB,e3,e2,x1c,x1s,List.length_singleton,u1,u2,q1,q2];refine NP X2 (fun st=>KD t v X1 (rv 6 (nR v Q) R) st∧(∀l,R=some l→st.heap 6 (nR v Q)=some (.row 63 35 l.length (aA l))∧nR v Q<st.aP 6))
   (fun st st'=>((∀x h,h<st.aP x→¬(R≠none∧x=6∧h=nR v Q)→st'.heap x h=st.heap x h)∧∀x,st.aP x≤st'.aP x)∧∃Rw,(R≠none→st'.heap 6 (nR v Q)=Rw)∧∀uF:St,(R≠none→uF.heap 6 (nR v Q)=Rw)→cA uF X2=some (ov aA (R.map fun l=>jI v.ns l)))
   (fun st hp=>⟨_,Qf st hp⟩) ⟨⟨?p1, ?p2,⟨_,EE _ ?p3,NM _ _,cH _⟩,_,xR _ ?p4,NM _ _,cH R⟩, ?p5⟩ ?rest
  case p1=>simp only[E8,seval,NW,cE,bE,bB,e3]<;>rfl
  case p2=>intro j hj;simp only[E8,seval,NW,cE,bE,bB];exact er j hj
  case p3=>intro hq;simp only[E8,seval,NW,cE,bE,bB];exact hRw hq
  case p4=>intro l hl;simp only[E8,seval,NW,cE,bE,bB];exact eR l hl
  case p5=>intro l hl;simp only[E8,seval,NW,cE,bE,bB];exact⟨eR l hl,Nat.lt_of_lt_of_le (lR l hl) g6⟩
  case rest =>
   rintro uF ⟨hF2,Rw2,hRw2,GP⟩
   have a3:uF.heap 3 0=some (.cells (aF (NO t v X1 (rv 6 (nR v Q) R)))):=(hF2.1 3 0 (by simp only[E8,seval,NW,cE,bE,bB];exact g3) (by omega)).trans (by simp only[E8,seval,NW,cE,bE,bB,e3]<;>rfl)
   have a2:uF.heap 2 0=some (.cells (aF jR)):=(hF2.1 2 0 (by simp only[E8,seval,NW,cE,bE,bB];exact g2) (by omega)).trans (by simp only[E8,seval,NW,cE,bE,bB,e2]<;>rfl)
   have ar:∀j,j<nS v→uF.heap 6 j=(Dy v)[j]?:=fun j hj=>(hF2.1 6 j (by simp only[E8,seval,NW,cE,bE,bB];omega) (by omega)).trans (by simp only[E8,seval,NW,cE,bE,bB];exact er j hj)
   have aQ:Q≠none→uF.heap 6 (nS v)=Rw:=fun hq=>(hF2.1 6 (nS v) (by
    cases Q with
    | none=>exact absurd rfl hq
    | some l=>simp only[E8,seval,NW,cE,bE,bB];exact Nat.lt_of_lt_of_le (lQ l rfl) g6) (fun e=>by have:=aGx hq;omega)).trans (by simp only[E8,seval,NW,cE,bE,bB];exact hRw hq)
   clear hF2
   simp only[ZG,seval,Bool.false_and,Prod.mk.injEq,aGw,NW,cE,bE,bB,a3,a2,x2c,x2s,List.length_singleton,u1,u2,q1,q2];refine⟨.agg (aF { t with dN:=ov aA (Q.map fun l=>jI v.ns l),kH:=ov aA (R.map fun l=>jI v.ns l)}),eH rfl (by simp only[E8,seval,NW,cE,bE,bB]<;>rfl) (cs:=aF (NO t v X1 X2)) (by simp only[Z8,seval,NW,cE,bE,bB,a3,a2,x2c,u1,u2]<;>rfl) ?ex,rfl⟩
   exact UK (t:=t) h.sd (d:=6) (c:=0) (q:=X1) (r:=X2) (fun j hj=>by rw[Nat.zero_add];simp only[E8,seval,NW,cE,bE,bB];exact ar j hj) (EE _ fun hq=>by simp only[E8,seval,NW,cE,bE,bB];exact aQ hq) (GP _ fun hr=>by simp only[E8,seval,NW,cE,bE,bB];exact hRw2 hr)
theorem YZ {ns:List Node} {o:Option (List Request)} (h:SA ns (ol o)):(o.map fun l=>jI ns l)=o:=by
 cases o with
 | none=>rfl
 | some l =>
   show some (jI ns l)=some l
   congr 1
   exact List.filter_eq_self.2 fun r hr=>decide_eq_true (h r hr)
theorem c6 (l:List Int) (k:Int) (hl:(l.length:Int)≤9223372036854775807):aC Tryz.prog 6 [.sl l.length (aJ l),.v (.int .i64 k)]=some (.v (.bool true)):=by
 obtain⟨t,v,Q,R,hy,T⟩:=x24 l hl
 have ft:=T.td.flat
 have k24:=kx hy (cV (Qi l)) ft
 have hs:=T.gi.sd
 have Br:(0:Int)<(v.ns.length:Int):=by have:=T.gi.pos;omega
 have gW:¬((v.ns.length:Int)=0):=by omega
 obtain⟨b0,_⟩:=Is k 65535 (by decide)
 obtain⟨x1,hx1⟩:∃x,IntKind.i64.wrap ((BitVec.ofInt IntKind.i64.bits k &&& BitVec.ofInt IntKind.i64.bits 65535).toNat:Int)=x:=⟨_,rfl⟩
 rw[hx1] at b0;obtain⟨m1,m2⟩:=eG (n:=(v.ns.length:Int)) b0 Br
 obtain⟨i,hi⟩:∃p,x1.tmod (v.ns.length:Int)=p:=⟨_,rfl⟩
 rw[hi] at m1 m2;have kP:=k34 v.ns T.gi.up hs.nn i ⟨m1,m2⟩
 unfold M1 at kP;obtain⟨pn,hpn⟩:∃pn,(oQ v.ns i v.ns.length).1=pn:=⟨_,rfl⟩
 have lpn:(pn.length:Int)<1000000:=by rw[← hpn];have:=Ws (ns:=v.ns) i;have:=hs.nn;omega
 have ppn:0<pn.length:=List.length_pos_iff.2 (by rw[← hpn];exact L7 v.ns T.gi.up m1 m2)
 rw[hpn] at kP;obtain⟨hB,L,hL,hL0⟩:=T.lists
 have AR:v.L≠some []:=fun e=>hL0 (Option.some.inj (hL.symm.trans e))
 obtain⟨t',ht'⟩:∃t',({ t with store:={ t.store with tree:=⟨.sl pn.length (cD pn)⟩} }:State)=t':=⟨_,rfl⟩
 have T1:TD t' { v with ns:=pn } Q R:=by
  rw[← ht'];exact⟨⟨hs.jN,hs.dQ,hs.gZ,hs.early,hs.bX,rfl,hs.tables,hs.eV,hs.tB,hs.nB,hs.nL,hs.nQ,hs.nE,hs.nO,hs.nT,lpn⟩,T.td.Ai,T.td.ret,T.td.nQ,T.td.nR⟩
 have n1:NEv { v with ns:=pn }:=⟨T.rg.ne.q,T.rg.ne.e,T.rg.ne.o,T.rg.ne.t,T.rg.ne.ea,T.rg.ne.tb⟩
 have h1:=c35 T1 n1 hB AR ppn T.qn T.rn
 have h2:=c36 T1
 have ln:∀o:List Request,(jI pn o).length≤o.length:=fun o=>List.length_filter_le _ _
 have T2:TD (GL t' { v with ns:=pn } Q R) { v with ns:=pn } (nz (jI pn (ol Q))) (nz (jI pn (ol R))):=⟨T1.sd,rfl,rfl,by rw[mU];have:=ln (ol Q);have:=T.td.nQ;omega,by rw[mU];have:=ln (ol R);have:=T.td.nR;omega⟩
 have em:∀o:Option (List Request),ol (o.map fun l=>jI pn l)=jI pn (ol o):=fun o=>by cases o<;>rfl
 have iX:=T1.fl
 have f1:Flat (.agg (aF { t' with dN:=ov aA (Q.map fun l=>jI pn l),kH:=ov aA (R.map fun l=>jI pn l)})):=(mN _).2 ⟨iX.1,iX.2.1,iX.2.2.1,iX.2.2.2.1,iX.2.2.2.2.1,iX.2.2.2.2.2.1,iX.2.2.2.2.2.2.1,cH _,cH _⟩
 have ka:=kx h1 (cV T1.flat) f1
 have kb:=kx h2 (cV T1.flat) T2.flat
 have kc:∀(st:St) (d:Option Nat),aL (aC Tryz.prog) 28 [.agg (aF { t' with dN:=ov aA (Q.map fun l=>jI pn l),kH:=ov aA (R.map fun l=>jI pn l)}),.agg (aF (GL t' { v with ns:=pn } Q R))] st d=some { dst:=d,val:=.v (.bool true)}:=k28 T2 (Q.map fun l=>jI pn l) (R.map fun l=>jI pn l) (by rw[em,mU]) (by rw[em,mU])
 have h3:=c35 T.td T.rg.ne hB AR T.gi.pos T.qn T.rn
 rw[YZ T.B4,YZ T.B5,← T.td.Ai,← T.td.ret] at h3;have kd:=kx h3 (cV ft) ft
 have ke:=k28 T.td Q R rfl rfl
 rw[show Mr t t.store (ov aA Q) (ov aA R)=t by unfold Mr;rw[← T.td.Ai,← T.td.ret]] at ke
 have k29':=k29
 rw[cL Tryz.func6 rfl ok6 rfl];refine jG ?_
 simp only[Z8,seval,k24,hx1,hi,gW,m1,m2,hs.tree,kP,eB,ht',ka,kb,kc,kd,ke,k29',pJ,pK];exact⟨_,bW rfl (by simp only[E8,seval]<;>rfl) (by first|exact .v _|simp only[dW]),rfl⟩
end Go.Ab.Tryz
