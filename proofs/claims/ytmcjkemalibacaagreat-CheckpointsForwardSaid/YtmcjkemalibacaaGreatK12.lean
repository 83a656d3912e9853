/-
  Part 12 of the proof: an evaluator of programs, its soundness, and what functions of this program compute.
-/
import Derived.Test.YtmcjkemalibacaaGreatK11
import Derived.Test.YtmcjkemalibacaaGreatK10
set_option linter.all false
set_option maxRecDepth 20000
set_option maxHeartbeats 40000000
open Go.IntKind (i64 u64)
open List Go.Proofs.Tryz
noncomputable section
namespace Go.Ab.Tryz
open Classical Go.Proofs Go.Ab
def Y8 (v:SV) (r:cC):Prop:=(∃j:Nat,j<(ol v.O).length/\(gx dO (ol v.O) j).root=r)\/0<=aC v.ns r
def c54 {s:aL} {v:SV} (hs:SD s v) (r:cC):aG prog 54 [.agg (aA s),.agg (bC r)]=some (.v (.bool (decide (Y8 v r)))):=by
 have hn:=hs.nO
 rw[cL func54 rfl rfl];refine iA ?_
 simp only[Z8,seval,hs.bN];refine cA (fun m st=>∃k:Nat,(st.env 2=.ptr 2 0 0/\st.heap 2 0=some (.cells (aA s))/\st.env 3=.ptr 3 0 0/\st.heap 3 0=some (.cells (bC r))/\st.env 5=.v (.int .i64 k))/\(∀j:Nat,j<k->¬((gx dO (ol v.O) (j:Int)).root=r))/\k<=(ol v.O).length/\m=(ol v.O).length-k)
  (fun e st=>(e=.ret/\∃k:Nat,k<(ol v.O).length/\((gx dO (ol v.O) (k:Int)).root=r)/\(∀j:Nat,j<k->¬((gx dO (ol v.O) (j:Int)).root=r))/\st.env 4=.v (.bool true))\/(e=.exit 0/\(∀j:Nat,j<(ol v.O).length->¬((gx dO (ol v.O) (j:Int)).root=r))/\st.env 2=.ptr 2 0 0/\st.heap 2 0=some (.cells (aA s))/\st.env 3=.ptr 3 0 0/\st.heap 3 0=some (.cells (bC r)))) ((ol v.O).length) ?step ?start ?rest
 case step =>
  rintro m st ⟨k,hI,hj,hk,hm⟩
  by_cases aW:(k:Int)<(ol v.O).length
  ·have q0:(0:Int)<=k:=by omega
   have hw:=wk (k:=k) (by omega)
   by_cases hh:(gx dO (ol v.O) (k:Int)).root=r
   ·apply oT (.ret)
    ·simp only[Z8,seval,hI,aW,q0,hs.bN,hh];rfl
    ·exact .inl ⟨rfl,k,by omega,hh,hj,by simp only[E8,seval,hs.bN]⟩
   ·apply oN ((ol v.O).length-(k+1))
    ·simp only[Z8,seval,hI,aW,q0,hs.bN,hh,hw];rfl
    ·exact⟨k+1,by simp only[E8,seval,hI],fun j h=>(Nat.lt_succ_iff_lt_or_eq.1 h).elim (hj j) fun e=>by subst e;exact hh,by omega,rfl⟩
  ·apply oT (.exit 0)
   ·simp only[Z8,seval,hI,aW,hs.bN];rfl
   ·exact .inr ⟨rfl,fun j h=>hj j (by omega),by simp only[E8,seval,hI]⟩
 case start=>exact⟨0,by simp only[E8,seval]<;>rfl,fun j h=>by omega,by omega,by omega⟩
 case rest =>
  rintro e st (⟨rfl,k,hk,hh,hj,h⟩|⟨rfl,hj,hI⟩)
  ·have hv:decide (Y8 v r)=true:=decide_eq_true (.inl ⟨k,hk,hh⟩)
   simp only[Z8,seval];exact⟨_,bT rfl (by simp only[E8,seval,h]<;>rfl) (by first|exact .v _|simp only[jE,h]),by rw[hv]⟩
  ·have hv:decide (Y8 v r)=decide (0<=aC v.ns r):=by
    refine decide_eq_decide.2 ⟨fun h=>h.elim (fun ⟨j,hj1,hj2⟩=>absurd hj2 (hj j hj1)) id,.inr⟩
   simp only[Z8,seval,hI,hs.tree,lY _ _ hs.nn];exact⟨_,bT rfl,by rw[hv]⟩
def k54 {s:aL} {v:SV} (hs:SD s v) (r:cC):KC 54 [.agg (aA s),.agg (bC r)] (.v (.bool (decide (Y8 v r)))):=fun _ _=>bE (bB hs.flat (rH r)) (c54 hs r) (.v _)
def LC (s:aL) (a:rX):Prop:=a.target.aE≠wL s a.slot\/(a.target.aE≠wL s s.now/\(wL s s.now=0\/a.target.aE≠u64.wrap (wL s s.now-1)))
def Iw (s:aL) (v:SV) (a:rX) (V:List Int):Bool × Int :=
 if Lk V (ol v.B).length≠0 then (false,Lk V (ol v.B).length) else
 if LC s a then (false,18) else
 if aC v.ns a.root<0 then (false,10) else
 if aC v.ns a.target.root<0 then (false,10) else
 if a.slot<(nd v.ns (aC v.ns a.root)).block.slot then (false,14) else
 if HX v.ns (aC v.ns a.root) (sJ s a.target.aE).1≠aC v.ns a.target.root then (false,19) else (decide (s.now<=a.slot),0)
def c39 {s:aL} {v:SV} (hs:SD s v) (hu:fK v.ns) (hp:s.cFg.jS≠0) (a:rX) (o:Option (List Int)) (hV:a.eM=ov aM o) (hl:((ol o).length:Int)<1000000) :
 aG prog 39 [.agg (aA s),.agg (iD a)]=some (.eH [.v (.bool (Iw s v a (ol o)).1),.v (.int .i64 (Iw s v a (ol o)).2)]):=by
 have hf:=hs.flat
 have PJ:=fun n=>kx (c40 o hl n) (bB (bQ o) (.v _)) (.v _)
 rw[cL func39 rfl rfl];refine iA ?_
 have r1:=cS v.ns a.root
 by_cases g1:Lk (ol o) (ol v.B).length=0
 case neg =>
  have hv:Iw s v a (ol o)=(false,Lk (ol o) (ol v.B).length):=by simp only[Iw,ne_eq,g1,not_false_eq_true,if_true]
  simp only[Z8,seval,hV,Rc hs,PJ,bf g1];exact⟨_,dN rfl rfl rfl (by simp only[E8,seval]<;>rfl) (by simp only[E8,seval]<;>rfl),by rw[hv]⟩
 have YX:LC s a->Iw s v a (ol o)=(false,18):=fun g=>by simp only[Iw,ne_eq,g1,not_true_eq_false,if_false,g,if_true]
 by_cases g2:a.target.aE=wL s a.slot
 case neg =>
  have hv:=YX (.inl g2)
  simp only[Z8,seval,hV,Rc hs,PJ,bt g1,Oo s hp hf,bf g2];exact⟨_,dN rfl rfl rfl (by simp only[E8,seval]<;>rfl) (by simp only[E8,seval]<;>rfl),by rw[hv]⟩
 by_cases g3:a.target.aE=wL s s.now
 case neg =>
  by_cases g4:wL s s.now=0
  ·have hv:=YX (.inr ⟨g3,.inl g4⟩)
   simp only[Z8,seval,hV,Rc hs,PJ,bt g1,Oo s hp hf,bt g2,bf g3,bt g4];exact⟨_,dN rfl rfl rfl (by simp only[E8,seval]<;>rfl) (by simp only[E8,seval]<;>rfl),by rw[hv]⟩
  by_cases g5:a.target.aE=u64.wrap (wL s s.now-1)
  case neg =>
   have hv:=YX (.inr ⟨g3,.inr g5⟩)
   simp only[Z8,seval,hV,Rc hs,PJ,bt g1,Oo s hp hf,bt g2,bf g3,bf g4,bf g5];exact⟨_,dN rfl rfl rfl (by simp only[E8,seval]<;>rfl) (by simp only[E8,seval]<;>rfl),by rw[hv]⟩
  have gb:¬LC s a:=fun h=>h.elim (fun h=>h g2) fun h=>h.2.elim g4 fun h=>h g5
  by_cases g6:aC v.ns a.root<0
  ·have hv:Iw s v a (ol o)=(false,10):=by simp only[Iw,ne_eq,g1,not_true_eq_false,if_false,gb,g6,if_true]
   simp only[Z8,seval,hV,Rc hs,PJ,bt g1,Oo s hp hf,bt g2,bf g3,bf g4,bt g5,hs.tree,lY _ _ hs.nn,g6];exact⟨_,dN rfl rfl rfl (by simp only[E8,seval]<;>rfl) (by simp only[E8,seval]<;>rfl),by rw[hv]⟩
  by_cases g7:aC v.ns a.target.root<0
  ·have hv:Iw s v a (ol o)=(false,10):=by simp only[Iw,ne_eq,g1,not_true_eq_false,if_false,gb,g6,g7,if_true]
   simp only[Z8,seval,hV,Rc hs,PJ,bt g1,Oo s hp hf,bt g2,bf g3,bf g4,bt g5,hs.tree,lY _ _ hs.nn,g6,g7];exact⟨_,dN rfl rfl rfl (by simp only[E8,seval]<;>rfl) (by simp only[E8,seval]<;>rfl),by rw[hv]⟩
  have q0:0<=aC v.ns a.root:=by omega
  by_cases g8:a.slot<(nd v.ns (aC v.ns a.root)).block.slot
  ·have hv:Iw s v a (ol o)=(false,14):=by simp only[Iw,ne_eq,g1,not_true_eq_false,if_false,gb,g6,g7,g8,if_true]
   simp only[Z8,seval,hV,Rc hs,PJ,bt g1,Oo s hp hf,bt g2,bf g3,bf g4,bt g5,hs.tree,lY _ _ hs.nn,g6,g7,q0,r1,g8];exact⟨_,dN rfl rfl rfl (by simp only[E8,seval]<;>rfl) (by simp only[E8,seval]<;>rfl),by rw[hv]⟩
  by_cases g9:HX v.ns (aC v.ns a.root) (sJ s a.target.aE).1=aC v.ns a.target.root
  ·have hv:Iw s v a (ol o)=(decide (s.now<=a.slot),0):=by simp only[Iw,ne_eq,g1,not_true_eq_false,if_false,gb,g6,g7,g8,g9]
   simp only[Z8,seval,hV,Rc hs,PJ,bt g1,Oo s hp hf,bt g2,bf g3,bf g4,bt g5,hs.tree,lY _ _ hs.nn,g6,g7,q0,r1,g8,Ya s hf,dR,PX _ hu hs.nn,bt g9];exact⟨_,dN rfl rfl rfl (by simp only[E8,seval]<;>rfl) (by simp only[E8,seval]<;>rfl),by rw[hv]⟩
  ·have hv:Iw s v a (ol o)=(false,19):=by simp only[Iw,ne_eq,g1,not_true_eq_false,if_false,gb,g6,g7,g8,g9,not_false_eq_true,if_true]
   simp only[Z8,seval,hV,Rc hs,PJ,bt g1,Oo s hp hf,bt g2,bf g3,bf g4,bt g5,hs.tree,lY _ _ hs.nn,g6,g7,q0,r1,g8,Ya s hf,dR,PX _ hu hs.nn,bf g9];exact⟨_,dN rfl rfl rfl (by simp only[E8,seval]<;>rfl) (by simp only[E8,seval]<;>rfl),by rw[hv]⟩
 have gb:¬LC s a:=fun h=>h.elim (fun h=>h g2) fun h=>h.1 g3
 by_cases g6:aC v.ns a.root<0
 ·have hv:Iw s v a (ol o)=(false,10):=by simp only[Iw,ne_eq,g1,not_true_eq_false,if_false,gb,g6,if_true]
  simp only[Z8,seval,hV,Rc hs,PJ,bt g1,Oo s hp hf,bt g2,bt g3,hs.tree,lY _ _ hs.nn,g6];exact⟨_,dN rfl rfl rfl (by simp only[E8,seval]<;>rfl) (by simp only[E8,seval]<;>rfl),by rw[hv]⟩
 by_cases g7:aC v.ns a.target.root<0
 ·have hv:Iw s v a (ol o)=(false,10):=by simp only[Iw,ne_eq,g1,not_true_eq_false,if_false,gb,g6,g7,if_true]
  simp only[Z8,seval,hV,Rc hs,PJ,bt g1,Oo s hp hf,bt g2,bt g3,hs.tree,lY _ _ hs.nn,g6,g7];exact⟨_,dN rfl rfl rfl (by simp only[E8,seval]<;>rfl) (by simp only[E8,seval]<;>rfl),by rw[hv]⟩
 have q0:0<=aC v.ns a.root:=by omega
 by_cases g8:a.slot<(nd v.ns (aC v.ns a.root)).block.slot
 ·have hv:Iw s v a (ol o)=(false,14):=by simp only[Iw,ne_eq,g1,not_true_eq_false,if_false,gb,g6,g7,g8,if_true]
  simp only[Z8,seval,hV,Rc hs,PJ,bt g1,Oo s hp hf,bt g2,bt g3,hs.tree,lY _ _ hs.nn,g6,g7,q0,r1,g8];exact⟨_,dN rfl rfl rfl (by simp only[E8,seval]<;>rfl) (by simp only[E8,seval]<;>rfl),by rw[hv]⟩
 by_cases g9:HX v.ns (aC v.ns a.root) (sJ s a.target.aE).1=aC v.ns a.target.root
 ·have hv:Iw s v a (ol o)=(decide (s.now<=a.slot),0):=by simp only[Iw,ne_eq,g1,not_true_eq_false,if_false,gb,g6,g7,g8,g9]
  simp only[Z8,seval,hV,Rc hs,PJ,bt g1,Oo s hp hf,bt g2,bt g3,hs.tree,lY _ _ hs.nn,g6,g7,q0,r1,g8,Ya s hf,dR,PX _ hu hs.nn,bt g9];exact⟨_,dN rfl rfl rfl (by simp only[E8,seval]<;>rfl) (by simp only[E8,seval]<;>rfl),by rw[hv]⟩
 ·have hv:Iw s v a (ol o)=(false,19):=by simp only[Iw,ne_eq,g1,not_true_eq_false,if_false,gb,g6,g7,g8,g9,not_false_eq_true,if_true]
  simp only[Z8,seval,hV,Rc hs,PJ,bt g1,Oo s hp hf,bt g2,bt g3,hs.tree,lY _ _ hs.nn,g6,g7,q0,r1,g8,Ya s hf,dR,PX _ hu hs.nn,bf g9];exact⟨_,dN rfl rfl rfl (by simp only[E8,seval]<;>rfl) (by simp only[E8,seval]<;>rfl),by rw[hv]⟩
def BE (ns:List Node) (s:Int) (l:List Int):Dl ns s l=-1\/Dl ns s l∈l:=by
 suffices h:∀(l:List Int) (a:Int),l.foldl (fun r x=>if (nd ns x).block.slot<=s then x else r) a=a\/l.foldl (fun r x=>if (nd ns x).block.slot<=s then x else r) a∈l from h l (-1)
 intro l;induction l with
 | nil=>exact fun a=>.inl rfl
 | cons x l ih =>
   intro a;rw[foldl_cons];split
   ·rcases ih x with h|h
    ·exact .inr (by rw[h];simp)
    ·exact .inr (by simp[h])
   ·rcases ih a with h|h
    ·exact .inl h
    ·exact .inr (by simp[h])
def IW {ns:List Node} (hu:fK ns) (i s:Int):-1<=HX ns i s/\HX ns i s<ns.length/\HX ns i s<=max i (-1):=by
 by_cases hi:0<=i/\i<ns.length
 ·rcases BE ns s (path ns i) with h|h
  ·rw[show HX ns i s=-1 from h];omega
  ·have:=Qu hu i.toNat i rfl hi.1 hi.2 _ h
   rw[show HX ns i s=Dl ns s (path ns i) from rfl];omega
 ·rw[PW s hi];omega
def elC {α:Type} (x:AV) (k:dL->Option α) (fb:Option α):Option α:=if h:∃c,x=.agg (bG c) then k (Classical.choose h) else fb
def aLT {α:Type} (c:dL) (k:dL->Option α) (fb:Option α):elC (.agg (bG c)) k fb=k c:=by
 unfold elC;have h:∃c',AV.agg (bG c)=.agg (bG c'):=⟨c,rfl⟩
 rw[dif_pos h];have:=Classical.choose_spec h
 injection this with h2
 rw[<- (nI _ _).1 h2]
@[congr] theorem aKT {α:Type} {x y:AV} {k:dL->Option α} {fb:Option α} (h:x=y):elC x k fb=elC y k fb:=by rw[h]
def aHP {call:Nat->List AV->Option AV} {ops:Array Oper} {st:St} {T:Nat} {pos:String} {fB:Array Edge} (d:Nat) (x y z w:Operand) :
 cI prog call ops ⟨some d,.buildSlice 109 4 #[(0,x),(1,y),(2,z),(3,w)],T,pos,fB,none⟩ st =
  elC (st.ev x) (fun a=>elC (st.ev y) (fun b=>elC (st.ev z) (fun c=>elC (st.ev w) (fun e=>some ((st.new d (.row 41 33 [a,b,c,e].length (oY [a,b,c,e]))).put (some d) (.own d (st.aQ d))))
   (cI prog call ops ⟨some d,.buildSlice 109 4 #[(0,x),(1,y),(2,z),(3,w)],T,pos,fB,none⟩ st)) (cI prog call ops ⟨some d,.buildSlice 109 4 #[(0,x),(1,y),(2,z),(3,w)],T,pos,fB,none⟩ st))
   (cI prog call ops ⟨some d,.buildSlice 109 4 #[(0,x),(1,y),(2,z),(3,w)],T,pos,fB,none⟩ st)) (cI prog call ops ⟨some d,.buildSlice 109 4 #[(0,x),(1,y),(2,z),(3,w)],T,pos,fB,none⟩ st):=by
 unfold elC;split
 ·rename_i h1;have h1c:=h1
  obtain⟨a,HU⟩:=h1c
  have e1:Classical.choose h1=a:=by have:=(Classical.choose_spec h1).symm.trans HU;injection this with t;exact (nI _ _).1 t
  rw[e1];split
  ·rename_i h2;have h2c:=h2
   obtain⟨b,h2'⟩:=h2c
   have e2:Classical.choose h2=b:=by have:=(Classical.choose_spec h2).symm.trans h2';injection this with t;exact (nI _ _).1 t
   rw[e2];split
   ·rename_i h3;have h3c:=h3
    obtain⟨c,h3'⟩:=h3c
    have e3:Classical.choose h3=c:=by have:=(Classical.choose_spec h3).symm.trans h3';injection this with t;exact (nI _ _).1 t
    rw[e3];split
    ·rename_i h4;have h4c:=h4
     obtain⟨e,Y9⟩:=h4c
     have e4:Classical.choose h4=e:=by have:=(Classical.choose_spec h4).symm.trans Y9;injection this with t;exact (nI _ _).1 t
     rw[e4,lC,QU];have hz:((List.range 4).flatMap fun _=>Et.map AV.v)=oY [gM,gM,gM,gM]:=by rw[Cr];rfl
     have u0:=Rf [gM,gM,gM,gM] 0 a (by simp)
     have u1:=Rf [a,gM,gM,gM] 1 b (by simp)
     have u2:=Rf [a,b,gM,gM] 2 c (by simp)
     have u3:=Rf [a,b,c,gM] 3 e (by simp)
     simp only[Int.reduceToNat,Nat.reduceMul,Nat.reduceAdd,set_cons_zero,set_cons_succ,List.set] at u0 u1 u2 u3;simp only[cF,aHQ,toList_toArray,map_cons,map_nil,all_cons,all_nil,HU,h2',h3',Y9,AV.jH,Bool.and_self,IX,QV,AV.cells,bW,BF,hz,length_cons,length_nil,Nat.reduceMul,Nat.reduceAdd,Nat.reducePow,Nat.reduceLeDiff,Nat.reduceLT,true_or,true_and,and_true,and_self,if_true,↓reduceIte,u0,u1,u2,u3,Nat.zero_le,Nat.le_refl]
    ·rfl
   ·rfl
  ·rfl
 ·rfl
def YY (s:aL) (v:SV) (b:Block) (c:dL):Prop:=c.aE<=s.aI.fin.aE\/(if (sJ s c.aE).1<b.slot then 0<=HX v.ns (aC v.ns b.parent) (sJ s c.aE).1/\(nd v.ns (HX v.ns (aC v.ns b.parent) (sJ s c.aE).1)).block.root=c.root else b.root=c.root)
def Mv (b:Block):List dL:=[b.eI,b.fin,b.dW.pj,b.dW.pf]
def BG (s:aL) (v:SV) (b:Block):Prop:=0<=aC v.ns b.parent/\QS s b/\∀j:Nat,j<4->YY s v b (gx gM (Mv b) j)
def c69 {s:aL} {v:SV} (hs:SD s v) (hu:fK v.ns) (hp:s.cFg.jS≠0) (b:Block):aG prog 69 [.agg (aA s),.agg (aU b)]=some (.v (.bool (decide (BG s v b)))):=by
 have hf:=hs.flat
 rw[cL func69 rfl rfl];refine iA ?_
 have r1:=cS v.ns b.parent
 by_cases g1:aC v.ns b.parent<0
 ·have hv:decide (BG s v b)=false:=decide_eq_false (fun h=>by have:=h.1;omega)
  simp only[Z8,seval,hs.tree,lY _ _ hs.nn,g1];exact⟨_,bT rfl,by rw[hv]⟩
 by_cases g2:QS s b
 case neg =>
  have hv:decide (BG s v b)=false:=decide_eq_false (fun h=>g2 h.2.1)
  simp only[Z8,seval,hs.tree,lY _ _ hs.nn,g1,aHG s hp hf,g2];exact⟨_,bT rfl,by rw[hv]⟩
 simp only[Z8,seval,hs.tree,lY _ _ hs.nn,g1,aHG s hp hf,g2,aHP,aLT];have h4:(Mv b).length=4:=rfl
 refine cA (fun m st=>∃k:Nat,(st.env 2=.ptr 2 0 0/\st.heap 2 0=some (.cells (aA s))/\st.env 3=.ptr 3 0 0/\st.heap 3 0=some (.cells (aU b))/\st.env 5=.v (.int .i64 (aC v.ns b.parent))/\st.env 6=.own 33 0/\st.heap 33 0=some (.row 41 33 (Mv b).length (oY (Mv b)))/\st.env 7=.v (.int .i64 k))/\(∀j:Nat,j<k->YY s v b (gx gM (Mv b) j))/\k<=4/\m=4-k)
  (fun e st=>(e=.ret/\st.env 4=.v (.bool false)/\∃j:Nat,j<4/\¬YY s v b (gx gM (Mv b) j))\/(e=.exit 0/\∀j:Nat,j<4->YY s v b (gx gM (Mv b) j))) 4 ?step ?start ?rest
 case step =>
  rintro m st ⟨k,hI,hj,hk,hm⟩
  by_cases Ij:k<4
  ·have aW:(k:Int)<(Mv b).length:=by rw[h4];omega
   have q0:(0:Int)<=k:=by omega
   have hw:=wk (k:=k) (by omega)
   obtain⟨c,hc⟩:∃c,gx gM (Mv b) k=c:=⟨_,rfl⟩
   have ra:=IW hu (aC v.ns b.parent) (sJ s c.aE).1
   have ld:∀T kk off,tI prog T=some kk->0<kk->off+kk<=33->sK prog T (some (.row 41 33 (Mv b).length (oY (Mv b)))) ((k:Int).toNat * 33+off)=eZ prog T (bG c) off:=fun T kk off h1 h2 h3=>by rw[LD q0 aW h1 h2 h3,hc]
   have ld0:∀T kk,tI prog T=some kk->0<kk->kk<=33->sK prog T (some (.row 41 33 (Mv b).length (oY (Mv b)))) ((k:Int).toNat * 33)=eZ prog T (bG c) 0:=fun T kk h1 h2 h3=>by rw[G6 q0 aW h1 h2 h3,hc]
   have nxt:YY s v b c->∀j:Nat,j<k+1->YY s v b (gx gM (Mv b) j):=fun h j hj'=>(Nat.lt_succ_iff_lt_or_eq.1 hj').elim (hj j) fun e=>by subst e;rw[hc];exact h
   have Z0:=ld0 23 1 YZ (by decide) (by decide)
   have ld2:=ld 27 32 1 aLU (by decide) (by decide)
   have cl:∀i:Int,(k:Int)<4:=fun _=>by omega
   have hl4:(k:Int)<((Mv b).length:Int):=aW
   by_cases h1:c.aE<=s.aI.fin.aE
   ·apply oN (4-(k+1))
    ·simp only[Z8,seval,hI,aW,q0,Z0,ld2,h1,hw];rfl
    ·exact⟨k+1,by simp only[E8,seval,hI],nxt (.inl h1),by omega,rfl⟩
   by_cases h2:(sJ s c.aE).1<b.slot
   ·by_cases h3:HX v.ns (aC v.ns b.parent) (sJ s c.aE).1<0
    ·apply oT (.ret)
     ·simp only[Z8,seval,hI,aW,q0,Z0,ld2,h1,h2,h3,Ya s hf,dR,hs.tree,PX _ hu hs.nn];rfl
     ·exact .inl ⟨rfl,by simp only[E8,seval],k,Ij,by rw[hc];exact fun h=>h.elim h1 fun h=>by rw[if_pos h2] at h;omega⟩
    have q3:0<=HX v.ns (aC v.ns b.parent) (sJ s c.aE).1:=by omega
    by_cases Y9:(nd v.ns (HX v.ns (aC v.ns b.parent) (sJ s c.aE).1)).block.root=c.root
    ·apply oN (4-(k+1))
     ·simp only[Z8,seval,hI,aW,q0,Z0,ld2,h1,h2,h3,Ya s hf,dR,hs.tree,PX _ hu hs.nn,q3,ra,Y9,hw];rfl
     ·exact⟨k+1,by simp only[E8,seval,hI],nxt (.inr (by rw[if_pos h2];exact⟨q3,Y9⟩)),by omega,rfl⟩
    ·apply oT (.ret)
     ·simp only[Z8,seval,hI,aW,q0,Z0,ld2,h1,h2,h3,Ya s hf,dR,hs.tree,PX _ hu hs.nn,q3,ra,Y9];rfl
     ·exact .inl ⟨rfl,by simp only[E8,seval],k,Ij,by rw[hc];exact fun h=>h.elim h1 fun h=>by rw[if_pos h2] at h;exact Y9 h.2⟩
   ·by_cases Y9:b.root=c.root
    ·apply oN (4-(k+1))
     ·simp only[Z8,seval,hI,aW,q0,Z0,ld2,h1,h2,Ya s hf,dR,Y9,hw];rfl
     ·exact⟨k+1,by simp only[E8,seval,hI],nxt (.inr (by rw[if_neg h2];exact Y9)),by omega,rfl⟩
    ·apply oT (.ret)
     ·simp only[Z8,seval,hI,aW,q0,Z0,ld2,h1,h2,Ya s hf,dR,Y9];rfl
     ·exact .inl ⟨rfl,by simp only[E8,seval],k,Ij,by rw[hc];exact fun h=>h.elim h1 fun h=>by rw[if_neg h2] at h;exact Y9 h⟩
  ·have aW:¬((k:Int)<(Mv b).length):=by rw[h4];omega
   apply oT (.exit 0)
   ·simp only[Z8,seval,hI,aW];rfl
   ·exact .inr ⟨rfl,fun j h=>hj j (by omega)⟩
 case start=>exact⟨0,by simp only[E8,seval]<;>rfl,fun j h=>by omega,by omega,by omega⟩
 case rest =>
  rintro e st (⟨rfl,h,j,hj,hn⟩|⟨rfl,h⟩)
  ·have hv:decide (BG s v b)=false:=decide_eq_false (fun h=>hn (h.2.2 j hj))
   simp only[Z8,seval];exact⟨_,bT rfl (by simp only[E8,seval,h]<;>rfl) (by first|exact .v _|simp only[jE,h]),by rw[hv]⟩
  ·have hv:decide (BG s v b)=true:=decide_eq_true ⟨by omega,g2,h⟩
   simp only[Z8,seval];exact⟨_,bT rfl,by rw[hv]⟩
def k69 {s:aL} {v:SV} (hs:SD s v) (hu:fK v.ns) (hp:s.cFg.jS≠0) (b:Block):KC 69 [.agg (aA s),.agg (aU b)] (.v (.bool (decide (BG s v b)))):=fun _ _=>bE (bB hs.flat (tW b)) (c69 hs hu hp b) (.v _)
def Cs (s:aL) (v:SV) (b:Block):Int :=
 if b.root=cO then 2 else if Y8 v b.root then 9 else if s.now<b.slot then 12 else if b.slot<=(sJ s s.aI.fin.aE).1 then 13 else
 if aC v.ns b.parent<0 then 10 else if b.slot<=(nd v.ns (aC v.ns b.parent)).block.slot then 14 else if (nd v.ns (aC v.ns b.parent)).status=2 then 15 else
 if ¬BG s v b then 16 else if ¬QT s.cFg.BC (nd v.ns (aC v.ns b.parent)).block b then 17 else if s.cFg.kU.sL<=(v.ns.length:Int) then 11 else 0
def c52 {s:aL} {v:SV} (hs:SD s v) (hu:fK v.ns) (hp:s.cFg.jS≠0) (b:Block):aG prog 52 [.agg (aA s),.agg (aU b)]=some (.v (.int .i64 (Cs s v b))):=by
 have hf:=hs.flat
 rw[cL func52 rfl rfl];refine iA ?_
 have r1:=cS v.ns b.parent
 by_cases g1:b.root=cO
 ·simp only[Z8,seval,Ya s hf,dR,k54 hs,hs.tree,lY _ _ hs.nn,k69 hs hu hp,BD,decide_true,decide_false,g1];exact⟨_,bT rfl,by simp only[Cs,g1,not_true_eq_false,not_false_eq_true,if_true,if_false]⟩
 by_cases g2:Y8 v b.root
 ·simp only[Z8,seval,Ya s hf,dR,k54 hs,hs.tree,lY _ _ hs.nn,k69 hs hu hp,BD,decide_true,decide_false,g1,g2];exact⟨_,bT rfl,by simp only[Cs,g1,g2,not_true_eq_false,not_false_eq_true,if_true,if_false]⟩
 by_cases g3:s.now<b.slot
 ·simp only[Z8,seval,Ya s hf,dR,k54 hs,hs.tree,lY _ _ hs.nn,k69 hs hu hp,BD,decide_true,decide_false,g1,g2,g3];exact⟨_,bT rfl,by simp only[Cs,g1,g2,g3,not_true_eq_false,not_false_eq_true,if_true,if_false]⟩
 by_cases g4:b.slot<=(sJ s s.aI.fin.aE).1
 ·simp only[Z8,seval,Ya s hf,dR,k54 hs,hs.tree,lY _ _ hs.nn,k69 hs hu hp,BD,decide_true,decide_false,g1,g2,g3,g4];exact⟨_,bT rfl,by simp only[Cs,g1,g2,g3,g4,not_true_eq_false,not_false_eq_true,if_true,if_false]⟩
 by_cases g5:aC v.ns b.parent<0
 ·simp only[Z8,seval,Ya s hf,dR,k54 hs,hs.tree,lY _ _ hs.nn,k69 hs hu hp,BD,decide_true,decide_false,g1,g2,g3,g4,g5];exact⟨_,bT rfl,by simp only[Cs,g1,g2,g3,g4,g5,not_true_eq_false,not_false_eq_true,if_true,if_false]⟩
 have q0:0<=aC v.ns b.parent:=by omega
 by_cases g6:b.slot<=(nd v.ns (aC v.ns b.parent)).block.slot
 ·simp only[Z8,seval,Ya s hf,dR,k54 hs,hs.tree,lY _ _ hs.nn,k69 hs hu hp,BD,decide_true,decide_false,g1,g2,g3,g4,g5,q0,r1,g6];exact⟨_,bT rfl,by simp only[Cs,g1,g2,g3,g4,g5,g6,not_true_eq_false,not_false_eq_true,if_true,if_false]⟩
 by_cases g7:(nd v.ns (aC v.ns b.parent)).status=2
 ·simp only[Z8,seval,Ya s hf,dR,k54 hs,hs.tree,lY _ _ hs.nn,k69 hs hu hp,BD,decide_true,decide_false,g1,g2,g3,g4,g5,q0,r1,g6,bt g7];exact⟨_,bT rfl,by simp only[Cs,g1,g2,g3,g4,g5,g6,g7,not_true_eq_false,not_false_eq_true,if_true,if_false]⟩
 by_cases g8:¬BG s v b
 ·simp only[Z8,seval,Ya s hf,dR,k54 hs,hs.tree,lY _ _ hs.nn,k69 hs hu hp,BD,decide_true,decide_false,g1,g2,g3,g4,g5,q0,r1,g6,bf g7,g8];exact⟨_,bT rfl,by simp only[Cs,g1,g2,g3,g4,g5,g6,g7,g8,not_true_eq_false,not_false_eq_true,if_true,if_false]⟩
 replace g8:=Classical.not_not.1 g8
 by_cases g9:¬QT s.cFg.BC (nd v.ns (aC v.ns b.parent)).block b
 ·simp only[Z8,seval,Ya s hf,dR,k54 hs,hs.tree,lY _ _ hs.nn,k69 hs hu hp,BD,decide_true,decide_false,g1,g2,g3,g4,g5,q0,r1,g6,bf g7,g8,g9];exact⟨_,bT rfl,by simp only[Cs,g1,g2,g3,g4,g5,g6,g7,g8,g9,not_true_eq_false,not_false_eq_true,if_true,if_false]⟩
 replace g9:=Classical.not_not.1 g9
 by_cases g10:s.cFg.kU.sL<=(v.ns.length:Int)
 ·simp only[Z8,seval,Ya s hf,dR,k54 hs,hs.tree,lY _ _ hs.nn,k69 hs hu hp,BD,decide_true,decide_false,g1,g2,g3,g4,g5,q0,r1,g6,bf g7,g8,g9,g10];exact⟨_,bT rfl,by simp only[Cs,g1,g2,g3,g4,g5,g6,g7,g8,g9,g10,not_true_eq_false,not_false_eq_true,if_true,if_false]⟩
 simp only[Z8,seval,Ya s hf,dR,k54 hs,hs.tree,lY _ _ hs.nn,k69 hs hu hp,BD,decide_true,decide_false,g1,g2,g3,g4,g5,q0,r1,g6,bf g7,g8,g9,g10];exact⟨_,bT rfl,by simp only[Cs,g1,g2,g3,g4,g5,g6,g7,g8,g9,g10,not_true_eq_false,not_false_eq_true,if_true,if_false]⟩
def k52 {s:aL} {v:SV} (hs:SD s v) (hu:fK v.ns) (hp:s.cFg.jS≠0) (b:Block):KC 52 [.agg (aA s),.agg (aU b)] (.v (.int .i64 (Cs s v b))):=fun _ _=>bE (bB hs.flat (tW b)) (c52 hs hu hp b) (.v _)
def QW (acc:Bool × dL × dL) (n:Node):Bool × dL × dL :=
 if n.status=2 then acc else (true,if acc.1=false\/acc.2.1.aE<n.block.dW.pj.aE then n.block.dW.pj else acc.2.1,if acc.1=false\/acc.2.2.aE<n.block.dW.pf.aE then n.block.dW.pf else acc.2.2)
def O4 (ns:List Node):Bool × dL × dL:=ns.foldl QW (false,gM,gM)
def Mw (ns:List Node):pU:=⟨(O4 ns).2.1,(O4 ns).2.2⟩
def O5 (ns:List Node) (k:Nat) (h:k<ns.length):O4 (ns.take (k+1))=QW (O4 (ns.take k)) (nd ns k):=by
 obtain⟨h',e⟩:=Jc (ns:=ns) (i:=(k:Int)) (by omega) (by omega)
 unfold O4;rw[take_succ_eq_append_getElem h,foldl_append,e];rfl
def c67 {s:aL} {v:SV} (hs:SD s v):aG prog 67 [.agg (aA s)]=some (.agg (fO (Mw v.ns))):=by
 have hn:=hs.nn
 rw[cL func67 rfl rfl];refine iA ?_
 simp only[Z8,seval,hs.tree];refine cA (fun m st=>∃(k:Nat) (b:Bool) (x y:dL),(st.env 1=.ptr 1 0 0/\st.heap 1 0=some (.cells (aA s))/\st.env 2=.ptr 2 0 0/\st.heap 2 0=some (.cells (fO Rh))/\st.env 3=.ptr 3 0 0/\st.heap 3 0=some (.cells (fO ⟨x,y⟩))/\st.env 4=.v (.bool b)/\st.env 5=.v (.int .i64 k))/\O4 (v.ns.take k)=(b,x,y)/\k<=v.ns.length/\m=v.ns.length-k)
  (fun e st=>e=.exit 0/\∃(x y:dL),(st.env 2=.ptr 2 0 0/\st.heap 2 0=some (.cells (fO Rh))/\st.env 3=.ptr 3 0 0/\st.heap 3 0=some (.cells (fO ⟨x,y⟩)))/\Mw v.ns=⟨x,y⟩) v.ns.length ?step ?start ?rest
 case step =>
  rintro m st ⟨k,b,x,y,hI,hp,hk,hm⟩
  by_cases aW:(k:Int)<v.ns.length
  ·have q0:(0:Int)<=k:=by omega
   have hw:=wk (k:=k) (by omega)
   have tG:=O5 v.ns k (by omega)
   rw[hp] at tG;unfold QW at tG;by_cases h1:(nd v.ns k).status=2
   ·rw[if_pos h1] at tG;apply oN (v.ns.length-(k+1))
    ·simp only[Z8,seval,hI,aW,q0,hs.tree,bt h1,hw];rfl
    ·exact⟨k+1,b,x,y,by simp only[E8,seval,hI],tG,by omega,rfl⟩
   rw[if_neg h1] at tG;cases b
   ·simp only[true_or,if_true] at tG;apply oN (v.ns.length-(k+1))
    ·simp only[Z8,seval,hI,aW,q0,hs.tree,bf h1,hw];rfl
    ·exact⟨k+1,true,_,_,by simp only[E8,seval,hI]<;>rfl,tG,by omega,rfl⟩
   ·simp only[Bool.true_eq_false,false_or] at tG;by_cases h2:x.aE<(nd v.ns k).block.dW.pj.aE
    ·rw[if_pos h2] at tG;by_cases h3:y.aE<(nd v.ns k).block.dW.pf.aE
     ·rw[if_pos h3] at tG;apply oN (v.ns.length-(k+1))
      ·simp only[Z8,seval,hI,aW,q0,hs.tree,bf h1,h2,h3,hw];rfl
      ·exact⟨k+1,true,_,_,by simp only[E8,seval,hI]<;>rfl,tG,by omega,rfl⟩
     ·rw[if_neg h3] at tG;apply oN (v.ns.length-(k+1))
      ·simp only[Z8,seval,hI,aW,q0,hs.tree,bf h1,h2,h3,hw];rfl
      ·exact⟨k+1,true,_,_,by simp only[E8,seval,hI]<;>rfl,tG,by omega,rfl⟩
    ·rw[if_neg h2] at tG;by_cases h3:y.aE<(nd v.ns k).block.dW.pf.aE
     ·rw[if_pos h3] at tG;apply oN (v.ns.length-(k+1))
      ·simp only[Z8,seval,hI,aW,q0,hs.tree,bf h1,h2,h3,hw];rfl
      ·exact⟨k+1,true,_,_,by simp only[E8,seval,hI]<;>rfl,tG,by omega,rfl⟩
     ·rw[if_neg h3] at tG;apply oN (v.ns.length-(k+1))
      ·simp only[Z8,seval,hI,aW,q0,hs.tree,bf h1,h2,h3,hw];rfl
      ·exact⟨k+1,true,_,_,by simp only[E8,seval,hI]<;>rfl,tG,by omega,rfl⟩
  ·have Cn:k=v.ns.length:=by omega
   rw[Cn,take_length] at hp;apply oT (.exit 0)
   ·simp only[Z8,seval,hI,aW,hs.tree];rfl
   ·exact⟨rfl,x,y,by simp only[E8,seval,hI],by unfold Mw;rw[hp]⟩
 case start=>exact⟨0,false,gM,gM,by simp only[E8,seval]<;>rfl,rfl,by omega,by omega⟩
 case rest =>
  rintro e st ⟨rfl,x,y,hI,hp⟩
  simp only[Z8,seval,hI];exact⟨_,fM rfl (by simp only[E8,seval,hI]<;>rfl) (by simp only[Z8,seval,hI]<;>rfl) (by simp only[jE,and_self,hI]),by rw[hp]⟩
def k67 {s:aL} {v:SV} (hs:SD s v):KC 67 [.agg (aA s)] (.agg (fO (Mw v.ns))):=fun _ _=>bE (cP hs.flat) (c67 hs) (.agg _ (Gz _))
def sU (s:aL) (c:dL):dL:=if s.aI.eI.aE<c.aE then c else s.aI.eI
def oB (s:aL) (c:dL):dL:=if s.aI.fin.aE<c.aE then c else s.aI.fin
def iP (s:aL) (v:SV) (J F:dL):Prop :=
 aC v.ns J.root<0\/aC v.ns F.root<0\/(nd v.ns (aC v.ns J.root)).status=2\/(nd v.ns (aC v.ns F.root)).status=2\/¬Jn s v.ns (aC v.ns J.root) J.aE\/¬Jn s v.ns (aC v.ns F.root) F.aE \/
 lW v.ns (aC v.ns F.root) (aC v.ns J.root)=false\/J.aE<F.aE\/wL s s.now<J.aE\/BB (ol v.T) J<0
def Ri (s:aL) (v:SV) (c1 c2:dL):AV:=if iP s v (sU s c1) (oB s c2) then .eH [.agg (bG gM),.agg (bG gM),.v (.bool false)] else .eH [.agg (bG (sU s c1)),.agg (bG (oB s c2)),.v (.bool true)]
end Go.Ab.Tryz
section
namespace Go.Ab.Tryz
open Classical Go.Proofs Go.Ab
end Go.Ab.Tryz
namespace Go.Ab
def Zf {α β:Type} {x:Option α} {k:α->Option β} {R:β->Prop} (Q:α->Prop) (h:∃a,x=some a/\Q a) (rest:∀a,Q a->∃r,k a=some r/\R r):∃r,cT x k=some r/\R r:=by
 obtain⟨a,h1,h2⟩:=h
 rw[h1];exact rest a h2
end Go.Ab
namespace Go.Ab.Tryz
open Classical Go.Proofs Go.Ab
def Eu:aB 7 73 (some 41)=[]/\aB 7 72 (some 41)=[]:=⟨rfl,rfl⟩
def mN {α:Type} (a:α) (l m:List α):List.append (a :: l) m=a :: List.append l m:=rfl
def mO {α:Type} (m:List α):List.append ([]:List α) m=m:=rfl
def c59 {s:aL} {v:SV} (hs:SD s v) (hu:fK v.ns) (hp:s.cFg.jS≠0) (c1 c2:dL):aG prog 59 [.agg (aA s),.agg (bG c1),.agg (bG c2)]=some (Ri s v c1 c2):=by
 have hf:=hs.flat
 have XL:=hs.fT
 rw[cG func59 rfl rfl]
 refine iA ?_
 unfold Ri;obtain⟨J,eJ⟩:∃J,sU s c1=J:=⟨_,rfl⟩
 obtain⟨F,eF⟩:∃F,oB s c2=F:=⟨_,rfl⟩
 rw[eJ,eF];simp only[ZG,seval,Ul,Eu,mN,mO];refine Zf (fun a=>a.1=.normal/\a.2.env 3=.ptr 3 0 0/\a.2.heap 3 0=some (.cells (aA s))/\a.2.env 5=.ptr 5 0 0/\a.2.heap 5 0=some (.cells (bG c2))/\a.2.env 6=.ptr 6 0 0/\a.2.heap 6 0=some (.cells (bG gM))/\a.2.env 7=.ptr 7 0 0/\a.2.heap 7 0=some (.cells (bG gM))/\a.2.env 9=.ptr 9 0 0/\a.2.heap 9 0=some (.cells (bG J))/\a.2.env 10=.ptr 10 0 0/\a.2.heap 10 0=some (.cells (bG s.aI.fin))) ?m1 ?r1
 case m1 =>
  unfold sU at eJ;by_cases a1:s.aI.eI.aE<c1.aE
  ·rw[if_pos a1] at eJ;simp only[a1,decide_true,if_true];exact⟨_,rfl,rfl,by simp only[E8,seval,eJ]<;>exact⟨rfl,rfl⟩⟩
  ·rw[if_neg a1] at eJ;simp only[a1,decide_false,Bool.false_eq_true,if_false];exact⟨_,rfl,rfl,by simp only[E8,seval,eJ]<;>exact⟨rfl,rfl⟩⟩
 case r1 =>
  rintro⟨_,st⟩ ⟨rfl,hI⟩
  dsimp only at hI
  simp only[ZG,seval,Ul,Eu,mN,mO,hI];refine Zf (fun a=>a.1=.normal/\a.2.env 3=.ptr 3 0 0/\a.2.heap 3 0=some (.cells (aA s))/\a.2.env 6=.ptr 6 0 0/\a.2.heap 6 0=some (.cells (bG gM))/\a.2.env 7=.ptr 7 0 0/\a.2.heap 7 0=some (.cells (bG gM))/\a.2.env 9=.ptr 9 0 0/\a.2.heap 9 0=some (.cells (bG J))/\a.2.env 10=.ptr 10 0 0/\a.2.heap 10 0=some (.cells (bG F))) ?m2 ?r2
  case m2 =>
   unfold oB at eF;by_cases a2:s.aI.fin.aE<c2.aE
   ·rw[if_pos a2] at eF;simp only[a2,decide_true,if_true];exact⟨_,rfl,rfl,by simp only[E8,seval,hI,eF]⟩
   ·rw[if_neg a2] at eF;simp only[a2,decide_false,Bool.false_eq_true,if_false];exact⟨_,rfl,rfl,by simp only[E8,seval,hI,eF]⟩
  case r2 =>
   rintro⟨_,st⟩ ⟨rfl,hK⟩
   dsimp only at hK
   have r1:=cS v.ns J.root
   have r2:=cS v.ns F.root
   by_cases g1:aC v.ns J.root<0
   ·simp only[ZG,seval,Ul,Eu,mN,mO,hK,hs.tree,lY _ _ hs.nn,Qh _ hu hs.nn,Oo s hp hf,hs.tables,YT _ hs.nT XL,decide_true,decide_false,g1];exact⟨_,by apply fQ;rfl;all_goals simp only[aJ,bY,Z8,seval,hK]<;>rfl,by rw[if_pos (show iP s v J F by simp only[iP,g1,not_true_eq_false,not_false_eq_true,true_or,or_true])]⟩
   by_cases g2:aC v.ns F.root<0
   ·simp only[ZG,seval,Ul,Eu,mN,mO,hK,hs.tree,lY _ _ hs.nn,Qh _ hu hs.nn,Oo s hp hf,hs.tables,YT _ hs.nT XL,decide_true,decide_false,g1,g2];exact⟨_,by apply fQ;rfl;all_goals simp only[aJ,bY,Z8,seval,hK]<;>rfl,by rw[if_pos (show iP s v J F by simp only[iP,g1,g2,not_true_eq_false,not_false_eq_true,true_or,or_true])]⟩
   have q1:0<=aC v.ns J.root:=by omega
   have q2:0<=aC v.ns F.root:=by omega
   by_cases g3:(nd v.ns (aC v.ns J.root)).status=2
   ·simp only[ZG,seval,Ul,Eu,mN,mO,hK,hs.tree,lY _ _ hs.nn,Qh _ hu hs.nn,Oo s hp hf,hs.tables,YT _ hs.nT XL,decide_true,decide_false,g1,g2,q1,q2,r1,r2,bt g3];exact⟨_,by apply fQ;rfl;all_goals simp only[aJ,bY,Z8,seval,hK]<;>rfl,by rw[if_pos (show iP s v J F by simp only[iP,g1,g2,g3,not_true_eq_false,not_false_eq_true,true_or,or_true])]⟩
   by_cases g4:(nd v.ns (aC v.ns F.root)).status=2
   ·simp only[ZG,seval,Ul,Eu,mN,mO,hK,hs.tree,lY _ _ hs.nn,Qh _ hu hs.nn,Oo s hp hf,hs.tables,YT _ hs.nT XL,decide_true,decide_false,g1,g2,q1,q2,r1,r2,bf g3,bt g4];exact⟨_,by apply fQ;rfl;all_goals simp only[aJ,bY,Z8,seval,hK]<;>rfl,by rw[if_pos (show iP s v J F by simp only[iP,g1,g2,g3,g4,not_true_eq_false,not_false_eq_true,true_or,or_true])]⟩
   have ke1:=aHH hs (aC v.ns J.root) J.aE q1 r1.2
   have ke2:=aHH hs (aC v.ns F.root) F.aE q2 r2.2
   by_cases g5:¬Jn s v.ns (aC v.ns J.root) J.aE
   ·simp only[ZG,seval,Ul,Eu,mN,mO,hK,hs.tree,lY _ _ hs.nn,Qh _ hu hs.nn,Oo s hp hf,hs.tables,YT _ hs.nT XL,decide_true,decide_false,g1,g2,q1,q2,r1,r2,bf g3,bf g4,ke1,ke2,g5];exact⟨_,by apply fQ;rfl;all_goals simp only[aJ,bY,Z8,seval,hK]<;>rfl,by rw[if_pos (show iP s v J F by simp only[iP,g1,g2,g3,g4,g5,not_true_eq_false,not_false_eq_true,true_or,or_true])]⟩
   replace g5:=Classical.not_not.1 g5
   by_cases g6:¬Jn s v.ns (aC v.ns F.root) F.aE
   ·simp only[ZG,seval,Ul,Eu,mN,mO,hK,hs.tree,lY _ _ hs.nn,Qh _ hu hs.nn,Oo s hp hf,hs.tables,YT _ hs.nT XL,decide_true,decide_false,g1,g2,q1,q2,r1,r2,bf g3,bf g4,ke1,ke2,g5,g6];exact⟨_,by apply fQ;rfl;all_goals simp only[aJ,bY,Z8,seval,hK]<;>rfl,by rw[if_pos (show iP s v J F by simp only[iP,g1,g2,g3,g4,g5,g6,not_true_eq_false,not_false_eq_true,true_or,or_true])]⟩
   replace g6:=Classical.not_not.1 g6
   by_cases g7:lW v.ns (aC v.ns F.root) (aC v.ns J.root)=false
   ·simp only[ZG,seval,Ul,Eu,mN,mO,hK,hs.tree,lY _ _ hs.nn,Qh _ hu hs.nn,Oo s hp hf,hs.tables,YT _ hs.nT XL,decide_true,decide_false,g1,g2,q1,q2,r1,r2,bf g3,bf g4,ke1,ke2,g5,g6,g7];exact⟨_,by apply fQ;rfl;all_goals simp only[aJ,bY,Z8,seval,hK]<;>rfl,by rw[if_pos (show iP s v J F by simp only[iP,g1,g2,g3,g4,g5,g6,g7,not_true_eq_false,not_false_eq_true,true_or,or_true])]⟩
   replace g7:=(by simpa using g7:lW v.ns _ _=true)
   by_cases g8:J.aE<F.aE
   ·simp only[ZG,seval,Ul,Eu,mN,mO,hK,hs.tree,lY _ _ hs.nn,Qh _ hu hs.nn,Oo s hp hf,hs.tables,YT _ hs.nT XL,decide_true,decide_false,g1,g2,q1,q2,r1,r2,bf g3,bf g4,ke1,ke2,g5,g6,g7,g7,g8];exact⟨_,by apply fQ;rfl;all_goals simp only[aJ,bY,Z8,seval,hK]<;>rfl,by rw[if_pos (show iP s v J F by simp only[iP,g1,g2,g3,g4,g5,g6,g7,g8,not_true_eq_false,not_false_eq_true,true_or,or_true])]⟩
   by_cases g9:wL s s.now<J.aE
   ·simp only[ZG,seval,Ul,Eu,mN,mO,hK,hs.tree,lY _ _ hs.nn,Qh _ hu hs.nn,Oo s hp hf,hs.tables,YT _ hs.nT XL,decide_true,decide_false,g1,g2,q1,q2,r1,r2,bf g3,bf g4,ke1,ke2,g5,g6,g7,g7,g8,g9];exact⟨_,by apply fQ;rfl;all_goals simp only[aJ,bY,Z8,seval,hK]<;>rfl,by rw[if_pos (show iP s v J F by simp only[iP,g1,g2,g3,g4,g5,g6,g7,g8,g9,not_true_eq_false,not_false_eq_true,true_or,or_true])]⟩
   by_cases g10:BB (ol v.T) J<0
   ·simp only[ZG,seval,Ul,Eu,mN,mO,hK,hs.tree,lY _ _ hs.nn,Qh _ hu hs.nn,Oo s hp hf,hs.tables,YT _ hs.nT XL,decide_true,decide_false,g1,g2,q1,q2,r1,r2,bf g3,bf g4,ke1,ke2,g5,g6,g7,g7,g8,g9,g10];exact⟨_,by apply fQ;rfl;all_goals simp only[aJ,bY,Z8,seval,hK]<;>rfl,by rw[if_pos (show iP s v J F by simp only[iP,g1,g2,g3,g4,g5,g6,g7,g8,g9,g10,not_true_eq_false,not_false_eq_true,true_or,or_true])]⟩
   simp only[ZG,seval,Ul,Eu,mN,mO,hK,hs.tree,lY _ _ hs.nn,Qh _ hu hs.nn,Oo s hp hf,hs.tables,YT _ hs.nT XL,decide_true,decide_false,g1,g2,q1,q2,r1,r2,bf g3,bf g4,ke1,ke2,g5,g6,g7,g7,g8,g9,g10];exact⟨_,by apply fQ;rfl;all_goals simp only[aJ,bY,Z8,seval,hK]<;>rfl,by rw[if_neg (show ¬iP s v J F by simp only[iP,g1,g2,g3,g4,g5,g6,g7,g8,g9,g10,not_true_eq_false,not_false_eq_true,or_self,Bool.true_eq_false])]⟩
def k59 {s:aL} {v:SV} (hs:SD s v) (hu:fK v.ns) (hp:s.cFg.jS≠0) (c1 c2:dL):KC 59 [.agg (aA s),.agg (bG c1),.agg (bG c2)] (Ri s v c1 c2):=fun _ _=>bE (mM hs.flat (.agg _ (bR c1)) (.agg _ (bR c2))) (c59 hs hu hp c1 c2) (by unfold Ri;split<;>exact .eH _ (mM (.agg _ (bR _)) (.agg _ (bR _)) (.v _)))
end Go.Ab.Tryz
end
namespace Go.Ab.Tryz
open Classical Go.Proofs Go.Ab
def bM (st:St) (s g:Nat):cN st (.own s g)=jN (st.heap s g):=by
 unfold cN jN;rw[if_neg (nK s g)];cases h:st.heap s g with
 | none=>simp only[h]
 | some e=>cases e<;>simp only[h]
def SD.fl {s:aL} {v:SV} (h:SD s v):Flat s.cFg.iF/\Flat s.fP.dS/\Flat s.fP.gA/\Flat s.cM.early/\Flat s.cM.bN/\Flat s.tree.nodes/\Flat s.tables:=(Jj s).1 h.flat
def rE (s:aL) (v:SV) (c1 c2:dL):SV :=
 if iP s v (sU s c1) (oB s c2) then v else
 if oB s c2=s.aI.fin then { v with T:=nz (tY (ol v.T) (sU s c1).aE)} else
 { v with T:=nz (tY (ol v.T) (sU s c1).aE),ns:=(gN v.ns (aC v.ns (oB s c2).root) v.ns.length).1,O:=nz ((ol v.O).filter fun b=>decide ((sJ s (oB s c2).aE).1<b.slot))}
def pV (s:aL) (v:SV) (c1 c2:dL):aL :=
 if iP s v (sU s c1) (oB s c2) then s else
 if oB s c2=s.aI.fin then { s with aI:=⟨sU s c1,oB s c2⟩,tables:=ov aN (nz (tY (ol v.T) (sU s c1).aE))} else
 { s with aI:=⟨sU s c1,oB s c2⟩,tables:=ov aN (nz (tY (ol v.T) (sU s c1).aE)),
          tree:=⟨.sl (gN v.ns (aC v.ns (oB s c2).root) v.ns.length).1.length (bV (gN v.ns (aC v.ns (oB s c2).root) v.ns.length).1)⟩,
          dV:=if aC (gN v.ns (aC v.ns (oB s c2).root) v.ns.length).1 s.dV<0 then cO else s.dV,
          cM:={ s.cM with bN:=ov aH (nz ((ol v.O).filter fun b=>decide ((sJ s (oB s c2).aE).1<b.slot)))} }
def Um {ns:List Node} (i:Int):(gN ns i ns.length).1.length<=ns.length:=Lh ns i ns.length
def SD.dP {s:aL} {v:SV} (h:SD s v) (hu:fK v.ns) (c1 c2:dL):SD (pV s v c1 c2) (rE s v c1 c2):=by
 have hT:((ol (nz (tY (ol v.T) (sU s c1).aE))).length:Int)<1000000:=by rw[mF];have:=length_filter_le (fun t:Table=>decide ((sU s c1).aE<=t.ck.aE)) (ol v.T);have:=h.nT;unfold tY;omega
 have hB:∀t∈ol (nz (tY (ol v.T) (sU s c1).aE)),rR t:=by rw[mF];exact fun t m=>h.tB t (mem_filter.1 m).1
 unfold pV rE;split
 ·exact h
 split
 ·exact⟨h.iF,h.dS,h.gA,h.early,h.bN,h.tree,rfl,h.eV,hB,h.nB,h.nL,h.nQ,h.nE,h.nO,hT,h.nn⟩
 ·refine⟨h.iF,h.dS,h.gA,h.early,rfl,rfl,rfl,h.eV,hB,h.nB,h.nL,h.nQ,h.nE, ?_,hT, ?_⟩
  ·rw[mF];have:=length_filter_le (fun b:Block=>decide ((sJ s (oB s c2).aE).1<b.slot)) (ol v.O);have:=h.nO;omega
  ·have:=Um (ns:=v.ns) (aC v.ns (oB s c2).root);have:=h.nn;show ((gN v.ns (aC v.ns (oB s c2).root) v.ns.length).1.length:Int)<1000000;omega
def c61 {s:aL} {v:SV} (hs:SD s v) (hu:fK v.ns) (hp:s.cFg.jS≠0) (c1 c2:dL):aG prog 61 [.agg (aA s),.agg (bG c1),.agg (bG c2)]=some (.agg (aA (pV s v c1 c2))):=by
 have hf:=hs.flat
 have hn:=hs.nO
 have pH:=hs.fl
 have LF:=k59 hs hu hp c1 c2
 rw[cG func61 rfl rfl]
 refine iA ?_
 by_cases b1:iP s v (sU s c1) (oB s c2)
 ·have hv:pV s v c1 c2=s:=if_pos b1
  have hc:Ri s v c1 c2=.eH [.agg (bG gM),.agg (bG gM),.v (.bool false)]:=if_pos b1
  rw[hc] at LF
  simp only[ZG,seval,tM,LF,dR];exact⟨_,fM rfl (by simp only[E8,seval,hf]<;>rfl) (by simp only[Z8,seval,hf]<;>rfl) (by simp only[jE,and_self,hf]),by rw[hv]⟩
 have hc:Ri s v c1 c2=.eH [.agg (bG (sU s c1)),.agg (bG (oB s c2)),.v (.bool true)]:=if_neg b1
 rw[hc] at LF
 have hv:pV s v c1 c2=_:=if_neg b1
 generalize hJ:sU s c1=J at *
 generalize hF:oB s c2=F at *
 have XJ:=cS v.ns F.root
 have hF0:0<=aC v.ns F.root:=by rcases Int.lt_or_le (aC v.ns F.root) 0 with h|h;exact absurd (.inr (.inl h)) b1;exact h
 have aEe:=aPP v.T hs.nT (fun t m=>(hs.tB t m).fl) J.aE
 have kp:=k34 v.ns hu hs.nn (aC v.ns F.root) ⟨hF0,XJ.2⟩
 by_cases e1:tY (ol v.T) J.aE=[]
 ·have hz:(nz (tY (ol v.T) J.aE))=none:=if_pos e1
  rw[show Rd 118 34 aN (tY (ol v.T) J.aE)=.v (.slice none 0 0) from if_pos e1] at aEe;have BH:=kx aEe (bB hs.fT (.v _)) (.v _)
  by_cases e2:F=s.aI.fin
  ·rw[if_pos e2,hz] at hv;subst e2;simp only[ZG,seval,tM,LF,dR,hs.tables,BH,decide_true,decide_false];exact⟨_,fM rfl (by simp only[E8,seval,hf,pH,and_self]<;>rfl) (by simp only[Z8,seval,hf,pH,and_self]<;>rfl) (by simp only[jE,and_self,hf,pH,and_self]),by rw[hv];rfl⟩
  rw[if_neg e2,hz] at hv;obtain⟨BI,en⟩:∃BI,(gN v.ns (aC v.ns F.root) v.ns.length).1=BI:=⟨_,rfl⟩
  have Hu:(BI.length:Int)<1000000:=by have:=Um (ns:=v.ns) (aC v.ns F.root);have:=hs.nn;rw[<- en];omega
  unfold M6 at kp;rw[en] at kp hv;obtain⟨x,ex⟩:∃x,(Mt F.aE s.cFg.jS).1=x:=⟨_,rfl⟩
  rw[show (sJ s F.aE).1=x from ex] at hv;by_cases e3:aC BI s.dV<0
  ·rw[if_pos e3] at hv;obtain⟨S1,eS⟩:∃S1:aL,S1={ cFg:=s.cFg,fP:=s.fP,aI:=⟨J,F⟩,cM:=s.cM,tree:=⟨.sl BI.length (bV BI)⟩,now:=s.now,dV:=cO,tables:=.v (.slice none 0 0)}:=⟨_,rfl⟩
   have hS:Flat (.agg (aA S1)):=by rw[eS];simp only[jE,pH,and_self]
   have Rj:=fun st d=>Ya S1 hS F.aE st d
   simp only[sJ,eS,ex] at Rj
   simp only[ZG,seval,tM,LF,dR,hs.tables,BH,decide_true,decide_false,e2,hs.tree,lY _ _ hs.nn,kp,lY _ _ Hu,e3,Rj,hs.bN];have LG:S1.cM.bN=ov aH v.O:=by rw[eS];exact hs.bN
   refine kZ (fun m st=>∃k:Nat,(st.env 3=.ptr 3 0 0/\st.heap 3 0=some (.cells (aA S1))/\st.env 6=.ptr 6 0 0/\st.heap 6 0=some (.cells (aA gC))/\st.env 11=.v (.int .u64 x)/\st.env 14=.v (.int .i64 k))/\(((((ol v.O).take k).filter (fun b=>decide (x<b.slot)))=[]/\st.env 13=.v (.slice none 0 0))\/((((ol v.O).take k).filter (fun b=>decide (x<b.slot)))≠[]/\∃g,st.env 13=.own 99 g/\g<st.aQ 99/\st.heap 99 g=some (.row 74 238 (((ol v.O).take k).filter (fun b=>decide (x<b.slot))).length (aH (((ol v.O).take k).filter (fun b=>decide (x<b.slot)))))))/\k<=(ol v.O).length/\m=(ol v.O).length-k)
    (fun e st=>e=.exit 0/\(((((ol v.O).take (ol v.O).length).filter (fun b=>decide (x<b.slot)))=[]/\st.env 13=.v (.slice none 0 0))\/((((ol v.O).take (ol v.O).length).filter (fun b=>decide (x<b.slot)))≠[]/\∃g,st.env 13=.own 99 g/\g<st.aQ 99/\st.heap 99 g=some (.row 74 238 (((ol v.O).take (ol v.O).length).filter (fun b=>decide (x<b.slot))).length (aH (((ol v.O).take (ol v.O).length).filter (fun b=>decide (x<b.slot)))))))/\st.env 3=.ptr 3 0 0/\st.heap 3 0=some (.cells (aA S1))/\st.env 6=.ptr 6 0 0/\st.heap 6 0=some (.cells (aA gC))/\st.env 11=.v (.int .u64 x)) ((ol v.O).length) ?step ?start ?rest
   case step =>
    rintro m st ⟨k,hI,h5,hk,hm⟩
    have Iv:(((((ol v.O).take k).filter (fun b=>decide (x<b.slot))).length:Nat):Int)<1000000:=by have:=length_filter_le (fun b=>decide (x<b.slot)) ((ol v.O).take k);have h2:=length_take_le' k (ol v.O);omega
    by_cases aW:(k:Int)<(ol v.O).length
    ·have q0:(0:Int)<=k:=by omega
     have hw:=wk (k:=k) (by omega)
     have hs:=zY dO (fun b=>decide (x<b.slot)) (ol v.O) k (by omega)
     by_cases hh:x<(gx dO (ol v.O) (k:Int)).slot
     ·rw[if_pos (decide_eq_true hh)] at hs;rcases h5 with ⟨hy,h5⟩|⟨hy,g,h5⟩
      ·rw[hy] at hs;apply Dr ((ol v.O).length-(k+1))
       ·simp only[ZG,seval,hI,h5,aW,hw,q0,tM,LG,hh];rfl
       ·exact⟨k+1,by simp only[E8,seval,hI],.inr ⟨by rw[hs];simp,_,by simp only[E8,seval]<;>rfl,(by simp only[E8,seval]<;>omega),(by rw[hs];simp only[E8,seval]<;>rfl)⟩,by omega,rfl⟩
      ·apply Dr ((ol v.O).length-(k+1))
       ·simp only[ZG,seval,hI,h5,Iv,aW,hw,q0,tM,LG,hh];rfl
       ·exact⟨k+1,by simp only[E8,seval,hI],.inr ⟨by rw[hs];simp,_,by simp only[E8,seval]<;>rfl,(by simp only[E8,seval]<;>omega),(by rw[hs];simp only[E8,seval]<;>rfl)⟩,by omega,rfl⟩
     ·rw[if_neg (by simpa using hh),append_nil] at hs
      apply Dr ((ol v.O).length-(k+1))
      ·simp only[ZG,seval,hI,aW,hw,q0,tM,LG,hh];rfl
      ·exact⟨k+1,by simp only[E8,seval,hI],by rw[hs];simpa only[E8,seval] using h5,by omega,rfl⟩
    ·have Cn:k=(ol v.O).length:=by omega
     rw[Cn] at h5;apply IY (.exit 0)
     ·simp only[ZG,seval,hI,aW,tM,LG];rfl
     ·exact⟨rfl,by simpa only[E8,seval] using h5,by simp only[E8,seval,hI]⟩
   case start=>exact⟨0,by simp only[E8,seval,eS]<;>rfl,.inl ⟨rfl,by simp only[E8,seval]⟩,by omega,by omega⟩
   case rest =>
    rintro e st ⟨rfl,⟨hy,h5⟩|⟨hy,g,h5,hg,Bz⟩,hI⟩
    ·rw[take_length] at hy;rw[show nz ((ol v.O).filter fun b=>decide (x<b.slot))=none from if_pos hy] at hv
     rw[eS] at hI;simp only[ZG,seval,tM,h5,hI];exact⟨_,fM rfl (by simp only[E8,seval,hI,pH,and_self]<;>rfl) (by simp only[Z8,seval,hI,pH,and_self]<;>rfl) (by simp only[jE,and_self,hI,pH,and_self]),by rw[hv];rfl⟩
    ·rw[take_length] at hy Bz;rw[show nz ((ol v.O).filter fun b=>decide (x<b.slot))=some ((ol v.O).filter fun b=>decide (x<b.slot)) from if_neg hy] at hv
     rw[eS] at hI;simp only[ZG,seval,tM,h5,Bz,hI];exact⟨_,by apply eG;rfl;all_goals simp only[aJ,Z8,seval,hI,Bz,pH,bP,gH,bM,cY,uZ,jE]<;>rfl,by rw[hv];rfl⟩
  rw[if_neg e3] at hv;obtain⟨S1,eS⟩:∃S1:aL,S1={ cFg:=s.cFg,fP:=s.fP,aI:=⟨J,F⟩,cM:=s.cM,tree:=⟨.sl BI.length (bV BI)⟩,now:=s.now,dV:=s.dV,tables:=.v (.slice none 0 0)}:=⟨_,rfl⟩
  have hS:Flat (.agg (aA S1)):=by rw[eS];simp only[jE,pH,and_self]
  have Rj:=fun st d=>Ya S1 hS F.aE st d
  simp only[sJ,eS,ex] at Rj
  simp only[ZG,seval,tM,LF,dR,hs.tables,BH,decide_true,decide_false,e2,hs.tree,lY _ _ hs.nn,kp,lY _ _ Hu,e3,Rj,hs.bN];have LG:S1.cM.bN=ov aH v.O:=by rw[eS];exact hs.bN
  refine kZ (fun m st=>∃k:Nat,(st.env 3=.ptr 3 0 0/\st.heap 3 0=some (.cells (aA S1))/\st.env 6=.ptr 6 0 0/\st.heap 6 0=some (.cells (aA gC))/\st.env 11=.v (.int .u64 x)/\st.env 14=.v (.int .i64 k))/\(((((ol v.O).take k).filter (fun b=>decide (x<b.slot)))=[]/\st.env 13=.v (.slice none 0 0))\/((((ol v.O).take k).filter (fun b=>decide (x<b.slot)))≠[]/\∃g,st.env 13=.own 99 g/\g<st.aQ 99/\st.heap 99 g=some (.row 74 238 (((ol v.O).take k).filter (fun b=>decide (x<b.slot))).length (aH (((ol v.O).take k).filter (fun b=>decide (x<b.slot)))))))/\k<=(ol v.O).length/\m=(ol v.O).length-k)
   (fun e st=>e=.exit 0/\(((((ol v.O).take (ol v.O).length).filter (fun b=>decide (x<b.slot)))=[]/\st.env 13=.v (.slice none 0 0))\/((((ol v.O).take (ol v.O).length).filter (fun b=>decide (x<b.slot)))≠[]/\∃g,st.env 13=.own 99 g/\g<st.aQ 99/\st.heap 99 g=some (.row 74 238 (((ol v.O).take (ol v.O).length).filter (fun b=>decide (x<b.slot))).length (aH (((ol v.O).take (ol v.O).length).filter (fun b=>decide (x<b.slot)))))))/\st.env 3=.ptr 3 0 0/\st.heap 3 0=some (.cells (aA S1))/\st.env 6=.ptr 6 0 0/\st.heap 6 0=some (.cells (aA gC))/\st.env 11=.v (.int .u64 x)) ((ol v.O).length) ?step ?start ?rest
  case step =>
   rintro m st ⟨k,hI,h5,hk,hm⟩
   have Iv:(((((ol v.O).take k).filter (fun b=>decide (x<b.slot))).length:Nat):Int)<1000000:=by have:=length_filter_le (fun b=>decide (x<b.slot)) ((ol v.O).take k);have h2:=length_take_le' k (ol v.O);omega
   by_cases aW:(k:Int)<(ol v.O).length
   ·have q0:(0:Int)<=k:=by omega
    have hw:=wk (k:=k) (by omega)
    have hs:=zY dO (fun b=>decide (x<b.slot)) (ol v.O) k (by omega)
    by_cases hh:x<(gx dO (ol v.O) (k:Int)).slot
    ·rw[if_pos (decide_eq_true hh)] at hs;rcases h5 with ⟨hy,h5⟩|⟨hy,g,h5⟩
     ·rw[hy] at hs;apply Dr ((ol v.O).length-(k+1))
      ·simp only[ZG,seval,hI,h5,aW,hw,q0,tM,LG,hh];rfl
      ·exact⟨k+1,by simp only[E8,seval,hI],.inr ⟨by rw[hs];simp,_,by simp only[E8,seval]<;>rfl,(by simp only[E8,seval]<;>omega),(by rw[hs];simp only[E8,seval]<;>rfl)⟩,by omega,rfl⟩
     ·apply Dr ((ol v.O).length-(k+1))
      ·simp only[ZG,seval,hI,h5,Iv,aW,hw,q0,tM,LG,hh];rfl
      ·exact⟨k+1,by simp only[E8,seval,hI],.inr ⟨by rw[hs];simp,_,by simp only[E8,seval]<;>rfl,(by simp only[E8,seval]<;>omega),(by rw[hs];simp only[E8,seval]<;>rfl)⟩,by omega,rfl⟩
    ·rw[if_neg (by simpa using hh),append_nil] at hs
     apply Dr ((ol v.O).length-(k+1))
     ·simp only[ZG,seval,hI,aW,hw,q0,tM,LG,hh];rfl
     ·exact⟨k+1,by simp only[E8,seval,hI],by rw[hs];simpa only[E8,seval] using h5,by omega,rfl⟩
   ·have Cn:k=(ol v.O).length:=by omega
    rw[Cn] at h5;apply IY (.exit 0)
    ·simp only[ZG,seval,hI,aW,tM,LG];rfl
    ·exact⟨rfl,by simpa only[E8,seval] using h5,by simp only[E8,seval,hI]⟩
  case start=>exact⟨0,by simp only[E8,seval,eS]<;>rfl,.inl ⟨rfl,by simp only[E8,seval]⟩,by omega,by omega⟩
  case rest =>
   rintro e st ⟨rfl,⟨hy,h5⟩|⟨hy,g,h5,hg,Bz⟩,hI⟩
   ·rw[take_length] at hy;rw[show nz ((ol v.O).filter fun b=>decide (x<b.slot))=none from if_pos hy] at hv
    rw[eS] at hI;simp only[ZG,seval,tM,h5,hI];exact⟨_,fM rfl (by simp only[E8,seval,hI,pH,and_self]<;>rfl) (by simp only[Z8,seval,hI,pH,and_self]<;>rfl) (by simp only[jE,and_self,hI,pH,and_self]),by rw[hv];rfl⟩
   ·rw[take_length] at hy Bz;rw[show nz ((ol v.O).filter fun b=>decide (x<b.slot))=some ((ol v.O).filter fun b=>decide (x<b.slot)) from if_neg hy] at hv
    rw[eS] at hI;simp only[ZG,seval,tM,h5,Bz,hI];exact⟨_,by apply eG;rfl;all_goals simp only[aJ,Z8,seval,hI,Bz,pH,bP,gH,bM,cY,uZ,jE]<;>rfl,by rw[hv];rfl⟩
 ·have hz:(nz (tY (ol v.T) J.aE))=some (tY (ol v.T) J.aE):=if_neg e1
  rw[show Rd 118 34 aN (tY (ol v.T) J.aE)=.uniq 118 34 (tY (ol v.T) J.aE).length (aN (tY (ol v.T) J.aE)) from if_neg e1] at aEe;have BH:∀(st:St),bH (aG prog) 128 [ov aN v.T,.v (.int .u64 J.aE)] st (some 30)=_:=fun st=>jM (st:=st) (d:=30) (bB hs.fT (.v _)) aEe
  have LH:∀t∈tY (ol v.T) J.aE,Flat t.iF:=fun t m=>(hs.tB t (mem_filter.1 m).1).fl
  have hex:=Rk (tY (ol v.T) J.aE).length (tY (ol v.T) J.aE) LH
  by_cases e2:F=s.aI.fin
  ·rw[if_pos e2,hz] at hv;subst e2;simp only[ZG,seval,tM,LF,dR,hs.tables,BH,decide_true,decide_false];exact⟨_,by apply eG;rfl;all_goals simp only[aJ,Z8,seval,pH,bP,gH,bM,cY,hex]<;>rfl,by rw[hv];rfl⟩
  rw[if_neg e2,hz] at hv;obtain⟨BI,en⟩:∃BI,(gN v.ns (aC v.ns F.root) v.ns.length).1=BI:=⟨_,rfl⟩
  have Hu:(BI.length:Int)<1000000:=by have:=Um (ns:=v.ns) (aC v.ns F.root);have:=hs.nn;rw[<- en];omega
  unfold M6 at kp;rw[en] at kp hv;obtain⟨x,ex⟩:∃x,(Mt F.aE s.cFg.jS).1=x:=⟨_,rfl⟩
  rw[show (sJ s F.aE).1=x from ex] at hv;by_cases e3:aC BI s.dV<0
  ·rw[if_pos e3] at hv;obtain⟨S1,eS⟩:∃S1:aL,S1={ cFg:=s.cFg,fP:=s.fP,aI:=⟨J,F⟩,cM:=s.cM,tree:=⟨.sl BI.length (bV BI)⟩,now:=s.now,dV:=cO,tables:=.own 30 0 }:=⟨_,rfl⟩
   have hS:∀st:St,st.heap 30 0=some (.row 118 34 (tY (ol v.T) J.aE).length (aN (tY (ol v.T) J.aE)))->fS st (.agg (aA S1))=some (.agg (aA { S1 with tables:=.sl (tY (ol v.T) J.aE).length (aN (tY (ol v.T) J.aE))})):=by
    intro st h;rw[eS];simp only[bP,gH,bM,h,hex,cY,jE,pH,cF]
   have Rj:∀(st:St) (d:Option Nat),st.heap 30 0=some (.row 118 34 (tY (ol v.T) J.aE).length (aN (tY (ol v.T) J.aE)))->bH (aG prog) 99 [.agg (aA S1),.v (.int .u64 F.aE)] st d=some { dst:=d,val:=.eH [.v (.int .u64 (sJ S1 F.aE).1),.v (.bool ((sJ S1 F.aE).2 == 0))]}:=by
    intro st d h;rw[jY,map_cons,map_cons,map_nil,hS st h,Oq,bK,bK,fY];exact N3 (c99 _ F.aE) (by intro x hx;simp only[mem_cons,not_mem_nil,or_false] at hx;rcases hx with rfl|rfl<;>exact .v _) (.eH _ (bB (.v _) (.v _)))
   simp only[sJ,eS,ex] at Rj
   simp only[ZG,seval,tM,LF,dR,hs.tables,BH,decide_true,decide_false,e2,hs.tree,lY _ _ hs.nn,kp,lY _ _ Hu,e3,Rj,hs.bN];have LG:S1.cM.bN=ov aH v.O:=by rw[eS];exact hs.bN
   refine kZ (fun m st=>∃k:Nat,(st.env 3=.ptr 3 0 0/\st.heap 3 0=some (.cells (aA S1))/\st.env 6=.ptr 6 0 0/\st.heap 6 0=some (.cells (aA gC))/\st.env 11=.v (.int .u64 x)/\st.heap 30 0=some (.row 118 34 (tY (ol v.T) J.aE).length (aN (tY (ol v.T) J.aE)))/\st.env 14=.v (.int .i64 k))/\(((((ol v.O).take k).filter (fun b=>decide (x<b.slot)))=[]/\st.env 13=.v (.slice none 0 0))\/((((ol v.O).take k).filter (fun b=>decide (x<b.slot)))≠[]/\∃g,st.env 13=.own 99 g/\g<st.aQ 99/\st.heap 99 g=some (.row 74 238 (((ol v.O).take k).filter (fun b=>decide (x<b.slot))).length (aH (((ol v.O).take k).filter (fun b=>decide (x<b.slot)))))))/\k<=(ol v.O).length/\m=(ol v.O).length-k)
    (fun e st=>e=.exit 0/\(((((ol v.O).take (ol v.O).length).filter (fun b=>decide (x<b.slot)))=[]/\st.env 13=.v (.slice none 0 0))\/((((ol v.O).take (ol v.O).length).filter (fun b=>decide (x<b.slot)))≠[]/\∃g,st.env 13=.own 99 g/\g<st.aQ 99/\st.heap 99 g=some (.row 74 238 (((ol v.O).take (ol v.O).length).filter (fun b=>decide (x<b.slot))).length (aH (((ol v.O).take (ol v.O).length).filter (fun b=>decide (x<b.slot)))))))/\st.env 3=.ptr 3 0 0/\st.heap 3 0=some (.cells (aA S1))/\st.env 6=.ptr 6 0 0/\st.heap 6 0=some (.cells (aA gC))/\st.env 11=.v (.int .u64 x)/\st.heap 30 0=some (.row 118 34 (tY (ol v.T) J.aE).length (aN (tY (ol v.T) J.aE)))) ((ol v.O).length) ?step ?start ?rest
   case step =>
    rintro m st ⟨k,hI,h5,hk,hm⟩
    have Iv:(((((ol v.O).take k).filter (fun b=>decide (x<b.slot))).length:Nat):Int)<1000000:=by have:=length_filter_le (fun b=>decide (x<b.slot)) ((ol v.O).take k);have h2:=length_take_le' k (ol v.O);omega
    by_cases aW:(k:Int)<(ol v.O).length
    ·have q0:(0:Int)<=k:=by omega
     have hw:=wk (k:=k) (by omega)
     have hs:=zY dO (fun b=>decide (x<b.slot)) (ol v.O) k (by omega)
     by_cases hh:x<(gx dO (ol v.O) (k:Int)).slot
     ·rw[if_pos (decide_eq_true hh)] at hs;rcases h5 with ⟨hy,h5⟩|⟨hy,g,h5⟩
      ·rw[hy] at hs;apply Dr ((ol v.O).length-(k+1))
       ·simp only[ZG,seval,hI,h5,aW,hw,q0,tM,LG,hh];rfl
       ·exact⟨k+1,by simp only[E8,seval,hI],.inr ⟨by rw[hs];simp,_,by simp only[E8,seval]<;>rfl,(by simp only[E8,seval]<;>omega),(by rw[hs];simp only[E8,seval]<;>rfl)⟩,by omega,rfl⟩
      ·apply Dr ((ol v.O).length-(k+1))
       ·simp only[ZG,seval,hI,h5,Iv,aW,hw,q0,tM,LG,hh];rfl
       ·exact⟨k+1,by simp only[E8,seval,hI],.inr ⟨by rw[hs];simp,_,by simp only[E8,seval]<;>rfl,(by simp only[E8,seval]<;>omega),(by rw[hs];simp only[E8,seval]<;>rfl)⟩,by omega,rfl⟩
     ·rw[if_neg (by simpa using hh),append_nil] at hs
      apply Dr ((ol v.O).length-(k+1))
      ·simp only[ZG,seval,hI,aW,hw,q0,tM,LG,hh];rfl
      ·exact⟨k+1,by simp only[E8,seval,hI],by rw[hs];simpa only[E8,seval] using h5,by omega,rfl⟩
    ·have Cn:k=(ol v.O).length:=by omega
     rw[Cn] at h5;apply IY (.exit 0)
     ·simp only[ZG,seval,hI,aW,tM,LG];rfl
     ·exact⟨rfl,by simpa only[E8,seval] using h5,by simp only[E8,seval,hI]⟩
   case start=>exact⟨0,by simp only[E8,seval,eS]<;>rfl,.inl ⟨rfl,by simp only[E8,seval]⟩,by omega,by omega⟩
   case rest =>
    rintro e st ⟨rfl,⟨hy,h5⟩|⟨hy,g,h5,hg,Bz⟩,hI⟩
    ·rw[take_length] at hy;rw[show nz ((ol v.O).filter fun b=>decide (x<b.slot))=none from if_pos hy] at hv
     rw[eS] at hI;simp only[ZG,seval,tM,h5,hI];exact⟨_,by apply eG;rfl;all_goals simp only[aJ,Z8,seval,hI,pH,bP,gH,bM,cY,uZ,jE,hex]<;>rfl,by rw[hv];rfl⟩
    ·rw[take_length] at hy Bz;rw[show nz ((ol v.O).filter fun b=>decide (x<b.slot))=some ((ol v.O).filter fun b=>decide (x<b.slot)) from if_neg hy] at hv
     rw[eS] at hI;simp only[ZG,seval,tM,h5,Bz,hI];exact⟨_,by apply eG;rfl;all_goals simp only[aJ,Z8,seval,hI,Bz,pH,bP,gH,bM,cY,uZ,jE,hex]<;>rfl,by rw[hv];rfl⟩
  rw[if_neg e3] at hv;obtain⟨S1,eS⟩:∃S1:aL,S1={ cFg:=s.cFg,fP:=s.fP,aI:=⟨J,F⟩,cM:=s.cM,tree:=⟨.sl BI.length (bV BI)⟩,now:=s.now,dV:=s.dV,tables:=.own 30 0 }:=⟨_,rfl⟩
  have hS:∀st:St,st.heap 30 0=some (.row 118 34 (tY (ol v.T) J.aE).length (aN (tY (ol v.T) J.aE)))->fS st (.agg (aA S1))=some (.agg (aA { S1 with tables:=.sl (tY (ol v.T) J.aE).length (aN (tY (ol v.T) J.aE))})):=by
   intro st h;rw[eS];simp only[bP,gH,bM,h,hex,cY,jE,pH,cF]
  have Rj:∀(st:St) (d:Option Nat),st.heap 30 0=some (.row 118 34 (tY (ol v.T) J.aE).length (aN (tY (ol v.T) J.aE)))->bH (aG prog) 99 [.agg (aA S1),.v (.int .u64 F.aE)] st d=some { dst:=d,val:=.eH [.v (.int .u64 (sJ S1 F.aE).1),.v (.bool ((sJ S1 F.aE).2 == 0))]}:=by
   intro st d h;rw[jY,map_cons,map_cons,map_nil,hS st h,Oq,bK,bK,fY];exact N3 (c99 _ F.aE) (by intro x hx;simp only[mem_cons,not_mem_nil,or_false] at hx;rcases hx with rfl|rfl<;>exact .v _) (.eH _ (bB (.v _) (.v _)))
  simp only[sJ,eS,ex] at Rj
  simp only[ZG,seval,tM,LF,dR,hs.tables,BH,decide_true,decide_false,e2,hs.tree,lY _ _ hs.nn,kp,lY _ _ Hu,e3,Rj,hs.bN];have LG:S1.cM.bN=ov aH v.O:=by rw[eS];exact hs.bN
  refine kZ (fun m st=>∃k:Nat,(st.env 3=.ptr 3 0 0/\st.heap 3 0=some (.cells (aA S1))/\st.env 6=.ptr 6 0 0/\st.heap 6 0=some (.cells (aA gC))/\st.env 11=.v (.int .u64 x)/\st.heap 30 0=some (.row 118 34 (tY (ol v.T) J.aE).length (aN (tY (ol v.T) J.aE)))/\st.env 14=.v (.int .i64 k))/\(((((ol v.O).take k).filter (fun b=>decide (x<b.slot)))=[]/\st.env 13=.v (.slice none 0 0))\/((((ol v.O).take k).filter (fun b=>decide (x<b.slot)))≠[]/\∃g,st.env 13=.own 99 g/\g<st.aQ 99/\st.heap 99 g=some (.row 74 238 (((ol v.O).take k).filter (fun b=>decide (x<b.slot))).length (aH (((ol v.O).take k).filter (fun b=>decide (x<b.slot)))))))/\k<=(ol v.O).length/\m=(ol v.O).length-k)
   (fun e st=>e=.exit 0/\(((((ol v.O).take (ol v.O).length).filter (fun b=>decide (x<b.slot)))=[]/\st.env 13=.v (.slice none 0 0))\/((((ol v.O).take (ol v.O).length).filter (fun b=>decide (x<b.slot)))≠[]/\∃g,st.env 13=.own 99 g/\g<st.aQ 99/\st.heap 99 g=some (.row 74 238 (((ol v.O).take (ol v.O).length).filter (fun b=>decide (x<b.slot))).length (aH (((ol v.O).take (ol v.O).length).filter (fun b=>decide (x<b.slot)))))))/\st.env 3=.ptr 3 0 0/\st.heap 3 0=some (.cells (aA S1))/\st.env 6=.ptr 6 0 0/\st.heap 6 0=some (.cells (aA gC))/\st.env 11=.v (.int .u64 x)/\st.heap 30 0=some (.row 118 34 (tY (ol v.T) J.aE).length (aN (tY (ol v.T) J.aE)))) ((ol v.O).length) ?step ?start ?rest
  case step =>
   rintro m st ⟨k,hI,h5,hk,hm⟩
   have Iv:(((((ol v.O).take k).filter (fun b=>decide (x<b.slot))).length:Nat):Int)<1000000:=by have:=length_filter_le (fun b=>decide (x<b.slot)) ((ol v.O).take k);have h2:=length_take_le' k (ol v.O);omega
   by_cases aW:(k:Int)<(ol v.O).length
   ·have q0:(0:Int)<=k:=by omega
    have hw:=wk (k:=k) (by omega)
    have hs:=zY dO (fun b=>decide (x<b.slot)) (ol v.O) k (by omega)
    by_cases hh:x<(gx dO (ol v.O) (k:Int)).slot
    ·rw[if_pos (decide_eq_true hh)] at hs;rcases h5 with ⟨hy,h5⟩|⟨hy,g,h5⟩
     ·rw[hy] at hs;apply Dr ((ol v.O).length-(k+1))
      ·simp only[ZG,seval,hI,h5,aW,hw,q0,tM,LG,hh];rfl
      ·exact⟨k+1,by simp only[E8,seval,hI],.inr ⟨by rw[hs];simp,_,by simp only[E8,seval]<;>rfl,(by simp only[E8,seval]<;>omega),(by rw[hs];simp only[E8,seval]<;>rfl)⟩,by omega,rfl⟩
     ·apply Dr ((ol v.O).length-(k+1))
      ·simp only[ZG,seval,hI,h5,Iv,aW,hw,q0,tM,LG,hh];rfl
      ·exact⟨k+1,by simp only[E8,seval,hI],.inr ⟨by rw[hs];simp,_,by simp only[E8,seval]<;>rfl,(by simp only[E8,seval]<;>omega),(by rw[hs];simp only[E8,seval]<;>rfl)⟩,by omega,rfl⟩
    ·rw[if_neg (by simpa using hh),append_nil] at hs
     apply Dr ((ol v.O).length-(k+1))
     ·simp only[ZG,seval,hI,aW,hw,q0,tM,LG,hh];rfl
     ·exact⟨k+1,by simp only[E8,seval,hI],by rw[hs];simpa only[E8,seval] using h5,by omega,rfl⟩
   ·have Cn:k=(ol v.O).length:=by omega
    rw[Cn] at h5;apply IY (.exit 0)
    ·simp only[ZG,seval,hI,aW,tM,LG];rfl
    ·exact⟨rfl,by simpa only[E8,seval] using h5,by simp only[E8,seval,hI]⟩
  case start=>exact⟨0,by simp only[E8,seval,eS]<;>rfl,.inl ⟨rfl,by simp only[E8,seval]⟩,by omega,by omega⟩
  case rest =>
   rintro e st ⟨rfl,⟨hy,h5⟩|⟨hy,g,h5,hg,Bz⟩,hI⟩
   ·rw[take_length] at hy;rw[show nz ((ol v.O).filter fun b=>decide (x<b.slot))=none from if_pos hy] at hv
    rw[eS] at hI;simp only[ZG,seval,tM,h5,hI];exact⟨_,by apply eG;rfl;all_goals simp only[aJ,Z8,seval,hI,pH,bP,gH,bM,cY,uZ,jE,hex]<;>rfl,by rw[hv];rfl⟩
   ·rw[take_length] at hy Bz;rw[show nz ((ol v.O).filter fun b=>decide (x<b.slot))=some ((ol v.O).filter fun b=>decide (x<b.slot)) from if_neg hy] at hv
    rw[eS] at hI;simp only[ZG,seval,tM,h5,Bz,hI];exact⟨_,by apply eG;rfl;all_goals simp only[aJ,Z8,seval,hI,Bz,pH,bP,gH,bM,cY,uZ,jE,hex]<;>rfl,by rw[hv];rfl⟩
def k61 {s:aL} {v:SV} (hs:SD s v) (hu:fK v.ns) (hp:s.cFg.jS≠0) (c1 c2:dL):KC 61 [.agg (aA s),.agg (bG c1),.agg (bG c2)] (.agg (aA (pV s v c1 c2))):=fun _ _=>bE (mM hs.flat (.agg _ (bR c1)) (.agg _ (bR c2))) (c61 hs hu hp c1 c2) (hs.dP hu c1 c2).flat
def Ct {α:Type} (s g:Nat) (cs:List α->List AV) (o:Option (List α)):fL (.own s g) (ov cs o)=True:=by cases o<;>rfl
def Cu {α:Type} (s g:Nat) (cs:List α->List AV) (o:Option (List α)):fL (ov cs o) (.own s g)=True:=by cases o<;>rfl
def Jq {α:Type} (s g n:Nat) (cs:List α->List AV) (o:Option (List α)):fL (.ptr s g n) (ov cs o)=True:=by cases o<;>rfl
def Jr {α:Type} (s g n:Nat) (cs:List α->List AV) (o:Option (List α)):fL (ov cs o) (.ptr s g n)=True:=by cases o<;>rfl
def aLV (t:Table) (b:Option (List Int)) (hb:t.iF=ov bF b) (hl:((ol b).length:Int)<1000000):aG prog 158 [.agg (bZ t)]=some (.agg (bZ ⟨t.ck,ov bF (some (ol b))⟩)):=by
 rw[cL func158 rfl rfl];refine iA ?_
 simp only[Z8,seval,hb,Hb _ hl];exact⟨_,by apply eG;rfl;all_goals simp only[aJ,Z8,seval,bP,tZ,bM,vA]<;>rfl,rfl⟩
def Ot (l:List Table):Prop:=l.Pairwise fun a b=>Es a.ck b.ck<0
def QX (t:Table) (n:Int):Prop:=aG prog 130 [.agg (bZ t),.v (.int .i64 n)]=some (.v (.int .i64 0))
def aPZ (o:Option (List Table)) (t':Table) (L:List Table):Prop:=L.length=(ol o).length+1/\(∀x∈L,x∈ol o\/x=t')/\(∀x∈ol o,x∈L)/\(Ot (ol o)->(∀x∈ol o,x.ck≠t'.ck)->Ot L)
def aAA {l:List Table} {t:Table} (hs:Ot l) (hn:∀x∈l,x.ck≠t.ck) {k:Nat} (hk:k<=l.length) (h1:∀j:Nat,j<k->Es (gx dM l (j:Int)).ck t.ck<0) (h2:k<l.length->¬Es (gx dM l (k:Int)).ck t.ck<0):Ot (l.take k++[t]++l.drop k):=by
 have hg:∀(j:Nat) (h:j<l.length),gx dM l (j:Int)=l[j]:=fun j h=>by simp[gx,h]
 have lo:∀a∈l.take k,Es a.ck t.ck<0:=fun a ha=>by
  obtain⟨j,hj,rfl⟩:=mem_take_iff_getElem.1 ha
  have:=h1 j (by omega)
  rwa [hg j (by omega)] at this
 have hi:∀b∈l.drop k,Es t.ck b.ck<0:=fun b hb=>by
  obtain⟨j,hj,rfl⟩:=mem_drop_iff_getElem.1 hb
  have kl:k<l.length:=by omega
  have:=h2 kl
  rw[hg k kl] at this;have h3:=aAw this (hn _ (getElem_mem kl))
  rcases Nat.eq_zero_or_pos j with e|e
  ·subst e;exact h3
  ·exact G5 h3 (pairwise_iff_getElem.1 hs k (k+j) kl (by omega) (by omega))
 refine pairwise_append.2 ⟨pairwise_append.2 ⟨hs.sublist (take_sublist ..),pairwise_singleton ..,fun a ha b hb=>?_⟩,hs.sublist (drop_sublist ..),fun a ha b hb=>?_⟩
 ·rw[mem_singleton.1 hb];exact lo a ha
 ·rcases mem_append.1 ha with ha|ha
  ·exact G5 (lo a ha) (hi b hb)
  ·rw[mem_singleton.1 ha];exact hi b hb
def aP0 (o:Option (List Table)) (hn:((ol o).length:Int)<999999) (hT:∀x∈ol o,Flat x.iF) (t:Table) (b:Option (List Int)) (hb:t.iF=ov bF b) (hl:((ol b).length:Int)<1000000) :
 ∃r,aG prog 195 [ov aN o,.agg (bZ t)]=some r/\∃L,aPZ o ⟨t.ck,ov bF (some (ol b))⟩ L/\r=.uniq 118 34 L.length (aN L):=by
 have hfT:Flat (.agg (bZ t)):=(gZ t).2 (by rw[hb];exact dZ b)
 have hf2:Flat (.agg (bZ ⟨t.ck,ov bF (some (ol b))⟩)):=(gZ _).2 (dZ (some (ol b)))
 have hto:=kA o hT
 have aHT:=kx (aLV t b hb hl) (cP hfT) hf2
 rw[cG func195 rfl (by cases o<;>rfl)]
 simp only[ZG,seval,QY];refine kZ (fun m st=>∃k:Nat,(st.env 0=ov aN o/\st.env 3=.ptr 3 0 0/\st.heap 3 0=some (.cells (bZ t))/\st.env 5=.v (.int .i64 k))/\(∀j:Nat,j<k->Es (gx dM (ol o) (j:Int)).ck t.ck<0)/\k<=(ol o).length/\m=(ol o).length-k)
  (fun e st=>e=.exit 0/\∃k:Nat,(st.env 0=ov aN o/\st.env 3=.ptr 3 0 0/\st.heap 3 0=some (.cells (bZ t))/\st.env 5=.v (.int .i64 k))/\(∀j:Nat,j<k->Es (gx dM (ol o) (j:Int)).ck t.ck<0)/\(k<(ol o).length->¬Es (gx dM (ol o) (k:Int)).ck t.ck<0)/\k<=(ol o).length) (ol o).length ?step ?start ?rest
 case step =>
  rintro m st ⟨k,hI,hj,hk,hm⟩
  by_cases aW:(k:Int)<(ol o).length
  ·have q0:(0:Int)<=k:=by omega
   have hw:=wk (k:=k) (by omega)
   by_cases h1:Es (gx dM (ol o) (k:Int)).ck t.ck<0
   ·apply Dr ((ol o).length-(k+1))
    ·simp only[ZG,seval,QY,hI,aW,q0,aHN,h1,hw];rfl
    ·exact⟨k+1,by simp only[E8,seval,hI],fun j h=>(Nat.lt_succ_iff_lt_or_eq.1 h).elim (hj j) fun e=>by subst e;exact h1,by omega,rfl⟩
   ·apply IY (.exit 0)
    ·simp only[ZG,seval,QY,hI,aW,q0,aHN,h1];rfl
    ·exact⟨rfl,k,by simp only[E8,seval,hI],hj,fun _=>h1,hk⟩
  ·apply IY (.exit 0)
   ·simp only[ZG,seval,QY,hI,aW];rfl
   ·exact⟨rfl,k,by simp only[E8,seval,hI],hj,fun h=>absurd (by omega) aW,hk⟩
 case start=>exact⟨0,by simp only[E8,seval]<;>rfl,fun j h=>by omega,by omega,by omega⟩
 case rest =>
  rintro e st ⟨rfl,k,hI,hj1,hj2,hk⟩
  have e1:ol (o.map (·.take k))=(ol o).take k:=by cases o<;>simp[ol]
  have e2:ol (o.map (·.drop k))=(ol o).drop k:=by cases o<;>simp[ol]
  have n1:(((ol (o.map (·.take k))).length:Nat):Int)<1000000:=by rw[e1,length_take];omega
  have n2:(((ol (o.map (·.drop k))).length:Nat):Int)<1000000:=by rw[e2,length_drop];omega
  have n3:(((ol (o.map (·.take k))++[(⟨t.ck,ov bF (some (ol b))⟩:Table)]).length:Nat):Int)<1000000:=by rw[length_append,e1,length_take];simp;omega
  have q0:(0:Int)<=k:=by omega
  have q1:(k:Int)<=((ol o).length:Int):=by omega
  have hr:∀x∈aN (ol (o.map (·.take k))++[(⟨t.ck,ov bF (some (ol b))⟩:Table)]++ol (o.map (·.drop k))),Flat x:=by
   refine kD _ fun x m=>?_
   rw[e1,e2] at m;rcases mem_append.1 m with m|m
   ·rcases mem_append.1 m with m|m
    ·exact hT x (mem_of_mem_take m)
    ·rw[mem_singleton.1 m];exact dZ (some (ol b))
   ·exact hT x (mem_of_mem_drop m)
  simp only[ZG,seval,QY,Ct,Cu,and_self,hI,q0,q1,Int.toNat_natCast,aHT,IZ _ n1,Un _ _ _ _ n1,JA _ _ _ _ n3 n2];refine⟨_,uK rfl (by simp only[E8,seval]<;>rfl) (by simp only[E8,seval]<;>rfl) hr,_,⟨?_,fun x m=>?_,fun x m=>?_,fun hs hn=>?_⟩,rfl⟩
  ·rw[e1,e2,length_append,length_append,length_take,length_drop];simp;omega
  ·rw[e1,e2] at m;rcases mem_append.1 m with m|m
   ·rcases mem_append.1 m with m|m
    ·exact .inl (mem_of_mem_take m)
    ·exact .inr (mem_singleton.1 m)
   ·exact .inl (mem_of_mem_drop m)
  ·rw[e1,e2];rw[<- take_append_drop k (ol o)] at m;rcases mem_append.1 m with m|m
   ·exact mem_append_left _ (mem_append_left _ m)
   ·exact mem_append_right _ m
  ·rw[e1,e2];exact aAA hs hn hk hj1 hj2
def aP2 (o:Option (List Table)) (hn:((ol o).length:Int)<999999) (hT:∀x∈ol o,rR x) (t:Table) (ht:rR t) (n kU:Int) :
 ∃r,aG prog 172 [ov aN o,.agg (bZ t),.v (.int .i64 n),.v (.int .i64 kU)]=some r/\∃o' e,r=.eH [ov aN o',.v (.int .i64 e)]/\e≠21/\((ol o').length:Int)<=max ((ol o).length:Int) kU/\(∀x∈ol o',rR x)/\(ol o ⊆ ol o')/\(e=0->(o'≠some []/\(Ot (ol o)->Ot (ol o')))/\∀x∈ol o',x∈ol o\/(0<n->QX x n)/\∃B,x.iF=ov bF (some B)/\(B.length:Int)=n):=by
 obtain⟨b,hb,hl⟩:=id ht
 have hfT:Flat (.agg (bZ t)):=(gZ t).2 ht.fl
 have hto:=kA o fun x m=>(hT x m).fl
 obtain⟨r,hr,e,rfl,he,hlen⟩:=aGF t b hb hl n
 have Yb:=kx hr (bB hfT (.v _)) (.v _)
 have Hu:((ol o).length:Int)<1000000:=by omega
 have aHU:=YT o Hu hto
 rw[cL func172 rfl (by cases o<;>rfl)]
 by_cases g1:e=0
 case neg =>
  simp only[Z8,seval,Yb,bf g1,nP _ _ fun x m=>(hT x m).fl]
  exact⟨_,dN rfl rfl rfl (by simp only[E8,seval,nP _ _ fun x m=>(hT x m).fl]<;>rfl) (by simp only[E8,seval,nP _ _ fun x m=>(hT x m).fl]<;>rfl),o,e,rfl,he,by omega,hT,fun x m=>m,fun h=>absurd h g1⟩
 by_cases g2:0<=BB (ol o) t.ck
 ·simp only[Z8,seval,Yb,bt g1,aHU,g2];exact⟨_,dN rfl rfl rfl (by simp only[E8,seval,nP _ _ fun x m=>(hT x m).fl]<;>rfl) (by simp only[E8,seval,nP _ _ fun x m=>(hT x m).fl]<;>rfl),o,9,rfl,by decide,by omega,hT,fun x m=>m,fun h=>by cases h⟩
 by_cases g3:kU<=((ol o).length:Int)
 ·simp only[Z8,seval,Yb,bt g1,aHU,g2,g3];exact⟨_,dN rfl rfl rfl (by simp only[E8,seval,nP _ _ fun x m=>(hT x m).fl]<;>rfl) (by simp only[E8,seval,nP _ _ fun x m=>(hT x m).fl]<;>rfl),o,11,rfl,by decide,by omega,hT,fun x m=>m,fun h=>by cases h⟩
 obtain⟨r2,hr2,L,⟨Zg,hL2,hL3,hL4⟩,rfl⟩:=aP0 o hn (fun x m=>(hT x m).fl) t b hb hl
 have hTL:∀x∈L,rR x:=fun x m=>(hL2 x m).elim (hT x) fun e=>by rw[e];exact⟨some (ol b),rfl,hl⟩
 have k195:∀(st:St),bH (aG prog) 195 [ov aN o,.agg (bZ t)] st (some 31)=_:=fun st=>jM (st:=st) (d:=31) (bB hto hfT) hr2
 have hex:=Rk L.length L fun x m=>(hTL x m).fl
 simp only[Z8,seval,Yb,bt g1,aHU,g2,g3,k195];have oS:∀x∈ol o,x.ck≠t.ck:=fun x hx e=>by
  obtain⟨i,hi,rfl⟩:=getElem_of_mem hx
  unfold BB at g2;rcases lS (fun k=>(gx dM (ol o) k).ck=t.ck) (ol o).length with ⟨_,hj⟩|⟨k,_,_,_,e2⟩
  ·exact hj i hi (by rw[show gx dM (ol o) ((i:Nat):Int)=(ol o)[i] by simp[gx,hi]];exact e)
  ·rw[e2] at g2;omega
 have htv:0<n->QX ⟨t.ck,ov bF (some (ol b))⟩ n:=fun h0=>by
  have hl:=hlen g1
  cases b with
  | none=>have:((0:Nat):Int)=n:=hl;omega
  | some B =>
    have et:t=⟨t.ck,ov bF (some B)⟩:=by cases t;simp only at hb;rw[hb]
    show aG prog 130 [.agg (bZ ⟨t.ck,ov bF (some B)⟩),_]=_
    rw[<- et,hr,g1]
 exact⟨_,dN rfl rfl rfl (by simp only[E8,seval,hex]<;>rfl) (by simp only[E8,seval,hex]<;>rfl),some L,0,rfl,by decide,by show ((L.length:Nat):Int)<=_;omega,hTL,hL3,fun _=>⟨⟨fun e=>by injection e with e;rw[e] at Zg;simp at Zg,fun hs=>hL4 hs oS⟩,fun x m=>(hL2 x m).imp id fun e=>by rw[e];exact⟨htv,ol b,rfl,hlen g1⟩⟩⟩
def aLX {s:aL} {v:SV} (hs:SD s v) (hn:((ol v.T).length:Int)<999999) (t:Table) (ht:rR t) :
 ∃r,aG prog 117 [.agg (aA s),.agg (bZ t)]=some r/\∃s' e,r=.eH [.agg (aA s'),.v (.int .i64 e)]/\Flat (.agg (aA s'))/\e≠21/\(e=0->∃o',s'={ s with tables:=ov aN o' }/\((ol o').length:Int)<=max ((ol v.T).length:Int) s.cFg.kU.nD/\(∀x∈ol o',rR x)/\(ol v.T ⊆ ol o')/\(o'≠some []/\(Ot (ol v.T)->Ot (ol o')))/\∀x∈ol o',x∈ol v.T\/(0<((ol v.B).length:Int)->QX x (ol v.B).length)/\∃B,x.iF=ov bF (some B)/\(B.length:Int)=(ol v.B).length):=by
 have hf:=hs.flat
 have pH:=hs.fl
 have hfT:Flat (.agg (bZ t)):=(gZ t).2 ht.fl
 have hz:Flat (.agg (aA gC)):=by simp only[jE,gC,mX,Ou,Hc,Uo,and_self]
 obtain⟨r,hr,e,rfl,he⟩:=aPU t ht (ol v.B).length
 have Yb:=kx hr (bB hfT (.v _)) (.v _)
 obtain⟨r2,hr2,o',e2,rfl,he2,Xz,hT2,aHV,hne2⟩:=aP2 v.T hn hs.tB t ht (ol v.B).length s.cFg.kU.nD
 have hf2:Flat (ov aN o'):=kA o' fun x m=>(hT2 x m).fl
 have k172:=kx hr2 (by simp only[mem_cons,not_mem_nil,or_false,forall_eq_or_imp,forall_eq,aHF,and_true];exact⟨hs.fT,hfT⟩) (.eH _ (bB hf2 (.v _)))
 rw[cL func117 rfl rfl];by_cases g1:e=0
 case neg =>
  simp only[Z8,seval,Rc hs,Yb,bf g1];exact⟨_,by apply dN;rfl;all_goals simp only[aJ,bY,Z8,seval,hz]<;>rfl,gC,e,rfl,hz,he,fun h=>absurd h g1⟩
 by_cases g2:t.ck.aE<s.aI.eI.aE
 ·simp only[Z8,seval,Rc hs,Yb,bt g1,g2];exact⟨_,by apply dN;rfl;all_goals simp only[aJ,bY,Z8,seval,hz]<;>rfl,gC,13,rfl,hz,by decide,fun h=>by cases h⟩
 by_cases g3:e2=0
 case neg =>
  simp only[Z8,seval,Rc hs,Yb,bt g1,g2,hs.tables,k172,dR,bf g3];exact⟨_,by apply dN;rfl;all_goals simp only[aJ,bY,Z8,seval,hz]<;>rfl,gC,e2,rfl,hz,he2,fun h=>absurd h g3⟩
 ·have hf3:Flat (.agg (aA { s with tables:=ov aN o' })):=by simp only[jE,pH,hf2,and_self]
  simp only[Z8,seval,Rc hs,Yb,bt g1,g2,hs.tables,k172,dR,bt g3];exact⟨_,by apply dN;rfl;all_goals simp only[aJ,bY,Z8,seval,hf3]<;>rfl,_,0,rfl,hf3,by decide,fun _=>⟨o',rfl,Xz,hT2,aHV,hne2 g3⟩⟩
def Yc (v:SV):Int:=sZ (fun k=>0<=aC v.ns (gx dO (ol v.O) k).parent) (ol v.O).length
def aLY {s:aL} {v:SV} (hs:SD s v):aG prog 218 [.agg (aA s)]=some (.v (.int .i64 (Yc v))):=by
 have hn:=hs.nO
 rw[cL func218 rfl rfl];refine iA ?_
 simp only[Z8,seval,hs.bN];refine cA (fun m st=>∃k:Nat,(st.env 1=.ptr 1 0 0/\st.heap 1 0=some (.cells (aA s))/\st.env 3=.v (.int .i64 k))/\(∀j:Nat,j<k->¬(0<=aC v.ns (gx dO (ol v.O) (j:Int)).parent))/\k<=(ol v.O).length/\m=(ol v.O).length-k)
  (fun e st=>(e=.ret/\∃k:Nat,k<(ol v.O).length/\(0<=aC v.ns (gx dO (ol v.O) (k:Int)).parent)/\(∀j:Nat,j<k->¬(0<=aC v.ns (gx dO (ol v.O) (j:Int)).parent))/\st.env 2=.v (.int .i64 (k:Nat)))\/(e=.exit 0/\(∀j:Nat,j<(ol v.O).length->¬(0<=aC v.ns (gx dO (ol v.O) (j:Int)).parent))/\st.env 1=.ptr 1 0 0/\st.heap 1 0=some (.cells (aA s)))) ((ol v.O).length) ?step ?start ?rest
 case step =>
  rintro m st ⟨k,hI,hj,hk,hm⟩
  by_cases aW:(k:Int)<(ol v.O).length
  ·have q0:(0:Int)<=k:=by omega
   have hw:=wk (k:=k) (by omega)
   by_cases hh:0<=aC v.ns (gx dO (ol v.O) (k:Int)).parent
   ·apply oT (.ret)
    ·simp only[Z8,seval,hI,aW,q0,hs.bN,hs.tree,lY _ _ hs.nn,hh];rfl
    ·exact .inl ⟨rfl,k,by omega,hh,hj,by simp only[E8,seval,hs.bN,hs.tree,lY _ _ hs.nn]⟩
   ·apply oN ((ol v.O).length-(k+1))
    ·simp only[Z8,seval,hI,aW,q0,hs.bN,hs.tree,lY _ _ hs.nn,hh,hw];rfl
    ·exact⟨k+1,by simp only[E8,seval,hI],fun j h=>(Nat.lt_succ_iff_lt_or_eq.1 h).elim (hj j) fun e=>by subst e;exact hh,by omega,rfl⟩
  ·apply oT (.exit 0)
   ·simp only[Z8,seval,hI,aW,hs.bN,hs.tree,lY _ _ hs.nn];rfl
   ·exact .inr ⟨rfl,fun j h=>hj j (by omega),by simp only[E8,seval,hI]⟩
 case start=>exact⟨0,by simp only[E8,seval]<;>rfl,fun j h=>by omega,by omega,by omega⟩
 case rest =>
  rintro e st (⟨rfl,k,hk,hh,hj,h⟩|⟨rfl,hj,hI⟩)
  ·have hv:Yc v=k:=zP hh hj _ hk
   simp only[Z8,seval];exact⟨_,bT rfl (by simp only[E8,seval,h]<;>rfl) (by first|exact .v _|simp only[jE,h]),by rw[hv]⟩
  ·have hv:Yc v=-1:=qN _ hj
   simp only[Z8,seval];exact⟨_,bT rfl,by rw[hv]⟩
def QZ {s:aL} {v:SV} (hs:SD s v):KC 218 [.agg (aA s)] (.v (.int .i64 (Yc v))):=fun _ _=>bE (cP hs.flat) (aLY hs) (.v _)
def Xb (e:Int) (r:cC) (a:List kN × Int) (x:Int):List kN × Int :=
 if (gx pN a.1 x).has=false\/(gx pN a.1 x).aE<e then (a.1.set x.toNat ⟨true,e,r⟩,i64.wrap (a.2+1)) else a
def uA (L:List kN) (e:Int) (r:cC) (V:List Int):List kN × Int:=V.foldl (Xb e r) (L,0)
def O6 (e:Int) (r:cC) (a:List kN × Int) (x:Int):(Xb e r a x).1.length=a.1.length:=by unfold Xb;split<;>simp
def Up (L:List kN) (e:Int) (r:cC) (V:List Int):(uA L e r V).1.length=L.length:=by
 unfold uA;suffices h:∀(V:List Int) (a:List kN × Int),(V.foldl (Xb e r) a).1.length=a.1.length from h V _
 intro V;induction V with
 | nil=>intro a;rfl
 | cons x V ih=>intro a;rw[foldl_cons,ih,O6]
def ZA (L:List kN) (e:Int) (r:cC) (V:List Int) (k:Nat) (h:k<V.length):uA L e r (V.take (k+1))=Xb e r (uA L e r (V.take k)) (gx (0:Int) V k):=by
 unfold uA;rw[take_succ_eq_append_getElem h,foldl_append];simp[gx,h]
def aP3 (o:Option (List kN)) (hn:((ol o).length:Int)<1000000) (e:Int) (r:cC) (V:Option (List Int)) (hV:((ol V).length:Int)<1000000) (hr:∀x∈ol V,0<=x/\x<(ol o).length) :
 aG prog 110 [ov dE o,.v (.int .u64 e),.agg (bC r),ov aM V]=some (.eH [.sl (ol o).length (dE (uA (ol o) e r (ol V)).1),.v (.int .i64 (uA (ol o) e r (ol V)).2)]):=by
 rw[cL func110 rfl (by cases o<;>cases V<;>rfl)]
 refine iA ?_
 simp only[Z8,seval,RA _ hn];refine cA (fun m st=>∃(k:Nat) (l:List kN) (c:Int),(st.env 1=.v (.int .u64 e)/\st.env 6=.ptr 6 0 0/\st.heap 6 0=some (.cells (bC r))/\st.env 3=ov aM V/\st.env 10=.own 15 0/\st.heap 15 0=some (.row 100 34 l.length (dE l))/\st.env 11=.v (.int .i64 c)/\st.env 12=.v (.int .i64 k))/\uA (ol o) e r ((ol V).take k)=(l,c)/\l.length=(ol o).length/\k<=(ol V).length/\m=(ol V).length-k)
  (fun ex st=>ex=.exit 0/\∃(l:List kN) (c:Int),(st.env 10=.own 15 0/\st.heap 15 0=some (.row 100 34 l.length (dE l))/\st.env 11=.v (.int .i64 c))/\uA (ol o) e r (ol V)=(l,c)/\l.length=(ol o).length) (ol V).length ?step ?start ?rest
 case step =>
  rintro m st ⟨k,l,c,hI,hc,hl,hk,hm⟩
  by_cases aW:(k:Int)<(ol V).length
  ·have q0:(0:Int)<=k:=by omega
   have hw:=wk (k:=k) (by omega)
   have tG:=ZA (ol o) e r (ol V) k (by omega)
   rw[hc] at tG;unfold Xb at tG;have hx:=hr _ (nC (z:=(0:Int)) q0 aW)
   obtain⟨x,ex⟩:∃x,gx (0:Int) (ol V) (k:Int)=x:=⟨_,rfl⟩
   rw[ex] at hx tG;have x0:0<=x:=hx.1
   have x1:x<(l.length:Int):=by rw[hl];exact hx.2
   have x2:x.toNat<l.length:=by omega
   have x3:x.toNat * 34+34<=l.length * 34:=by omega
   have ld:=G7 (T:=100) (n:=l.length) (k:=34) x0 x1 aGI (by decide) (by decide)
   by_cases h1:(gx pN l x).has=true
   ·by_cases h2:(gx pN l x).aE<e
    ·rw[if_pos (.inr h2)] at tG;apply oN ((ol V).length-(k+1))
     ·simp only[Z8,seval,hI,aW,q0,ex,x0,x1,x2,x3,ld,h1,h2,LI _ _ _ x2,hw];rfl
     ·exact⟨k+1,_,_,by simp only[E8,seval,hI,length_set]<;>exact⟨rfl,rfl⟩,tG,by rw[length_set,hl],by omega,rfl⟩
    ·rw[if_neg (by simp only[h1,h2,Bool.true_eq_false,or_self,not_false_eq_true])] at tG
     apply oN ((ol V).length-(k+1))
     ·simp only[Z8,seval,hI,aW,q0,ex,x0,x1,x2,x3,ld,h1,h2,hw];rfl
     ·exact⟨k+1,l,c,by simp only[E8,seval,hI],tG,hl,by omega,rfl⟩
   ·have HU:(gx pN l x).has=false:=by simpa using h1
    rw[if_pos (.inl HU)] at tG;apply oN ((ol V).length-(k+1))
    ·simp only[Z8,seval,hI,aW,q0,ex,x0,x1,x2,x3,ld,HU,LI _ _ _ x2,hw];rfl
    ·exact⟨k+1,_,_,by simp only[E8,seval,hI,length_set]<;>exact⟨rfl,rfl⟩,tG,by rw[length_set,hl],by omega,rfl⟩
  ·have Cn:k=(ol V).length:=by omega
   rw[Cn,take_length] at hc;apply oT (.exit 0)
   ·simp only[Z8,seval,hI,aW];rfl
   ·exact⟨rfl,l,c,by simp only[E8,seval,hI],hc,hl⟩
 case start=>exact⟨0,ol o,0,by simp only[E8,seval]<;>rfl,rfl,rfl,by omega,by omega⟩
 case rest =>
  rintro ex st ⟨rfl,l,c,hI,hc,hl⟩
  rw[hc];simp only[Z8,seval,hI];exact⟨_,dN rfl rfl rfl (by simp only[E8,seval,hI,Zh]<;>rfl) (by simp only[E8,seval,hI,Zh]<;>rfl),by rw[hl]⟩
def aLZ (o:Option (List kN)) (hn:((ol o).length:Int)<1000000) (e:Int) (r:cC) (V:Option (List Int)) (hV:((ol V).length:Int)<1000000) (hr:∀x∈ol V,0<=x/\x<(ol o).length) (st:St) (d:Option Nat) :
 bH (aG prog) 110 [ov dE o,.v (.int .u64 e),.agg (bC r),ov aM V] st d=some { dst:=d,val:=.eH [.sl (ol o).length (dE (uA (ol o) e r (ol V)).1),.v (.int .i64 (uA (ol o) e r (ol V)).2)]} :=
 bE (by simp only[mem_cons,not_mem_nil,or_false,forall_eq_or_imp,forall_eq,jE,and_self,and_true,true_and]) (aP3 o hn e r V hV hr) (.eH _ (bB (.sl _ _ (nN _)) (.v _)))
def Rl (s:aL) (v:SV) (a:rX) (V:List Int):aL:={ s with fP:={ s.fP with dS:=ov dE (some (uA (ol v.L) a.target.aE a.root V).1)} }
def c44 {s:aL} {v:SV} (hs:SD s v) (a:rX) (V:Option (List Int)) (ha:a.eM=ov aM V) (hV:((ol V).length:Int)<1000000) (hr:∀x∈ol V,0<=x/\x<(ol v.L).length) :
 aG prog 44 [.agg (aA s),.agg (iD a)]=some (.agg (aA (Rl s v a (ol V)))):=by
 have pH:=hs.fl
 rw[cL func44 rfl rfl];refine iA ?_
 simp only[Z8,seval,hs.dS,ha,aLZ v.L hs.nL _ _ V hV hr,dR];exact⟨_,fM rfl (by simp only[E8,seval,pH,and_self]<;>rfl) (by simp only[Z8,seval,pH,and_self]<;>rfl) (by simp only[jE,and_self,pH,and_self]),by unfold Rl;simp only[ov,Up]⟩
def oH (ns:List Node) (r:cC) (h:0<=aC ns r):(nd ns (aC ns r)).block.root=r:=by
 unfold aC at h ⊢
 cases hf:ns.findIdx? (fun n=>decide (n.block.root=r)) with
 | none=>rw[hf] at h;simp only at h;omega
 | some k =>
   obtain⟨hk,hp,_⟩:=findIdx?_eq_some_iff_getElem.1 hf
   simp only
   have:nd ns (k:Int)=ns[k]:=by simp[nd,hk]
   rw[this];exact of_decide_eq_true hp
def Ev {ns:List Node} {r:cC} {j:Int} (h0:0<=j) (h1:j<ns.length) (hr:(nd ns j).block.root=r):0<=aC ns r:=by
 unfold aC;cases hf:ns.findIdx? (fun n=>decide (n.block.root=r)) with
 | none =>
   obtain⟨hj,e⟩:=Jc h0 h1
   have:=findIdx?_eq_none_iff.1 hf ns[j.toNat] (getElem_mem hj)
   rw[<- e] at this;simp[hr] at this
 | some k=>simp only;omega
structure GI (s:aL) (v:SV) (q:Int):Prop where
 sd:SD s v
 up:fK v.ns
 Ww:(nd v.ns 0).up=-1
 pos:0<v.ns.length
 nl:(v.ns.length:Int)<=s.cFg.kU.sL
 PK:s.cFg.kU.sL<=4096
 jS:1<=s.cFg.jS/\s.cFg.jS<=64
 JB:(ol v.L).length=(ol v.B).length
 nB:((ol v.B).length:Int)<=1024
 nO:((ol v.O).length:Int)<=s.cFg.kU.vU
 LJ:s.cFg.kU.vU<=64
 nE:((ol v.E).length:Int)<=s.cFg.kU.pW
 PL:s.cFg.kU.pW<=256
 nT:((ol v.T).length:Int)<=s.cFg.kU.nD
 PM:s.cFg.kU.nD<=64
 nQ:((ol v.Q).length:Int)<=q
 O7:q<=900000
 eI:0<=aC v.ns s.aI.eI.root
def GI.sp {s:aL} {v:SV} {q:Int} (h:GI s v q):s.cFg.jS≠0:=by have:=h.jS.1;omega
def uB (s:aL) (v:SV) (c1 c2:dL):(pV s v c1 c2).cFg=s.cFg:=by unfold pV;split;rfl;split<;>rfl
def Rm (s:aL) (v:SV) (c1 c2:dL):(pV s v c1 c2).now=s.now:=by unfold pV;split;rfl;split<;>rfl
def GI.dP {s:aL} {v:SV} {q:Int} (h:GI s v q) (c1 c2:dL):GI (pV s v c1 c2) (rE s v c1 c2) q:=by
 have hsd:=h.sd.dP h.up c1 c2
 by_cases b:iP s v (sU s c1) (oB s c2)
 ·rw[show pV s v c1 c2=s from if_pos b,show rE s v c1 c2=v from if_pos b];exact h
 have hJ:0<=aC v.ns (sU s c1).root:=by rcases Int.lt_or_le (aC v.ns (sU s c1).root) 0 with g|g;exact absurd (.inl g) b;exact g
 have hF:0<=aC v.ns (oB s c2).root:=by rcases Int.lt_or_le (aC v.ns (oB s c2).root) 0 with g|g;exact absurd (.inr (.inl g)) b;exact g
 have hA:lW v.ns (aC v.ns (oB s c2).root) (aC v.ns (sU s c1).root)=true:=by
  cases g:lW v.ns (aC v.ns (oB s c2).root) (aC v.ns (sU s c1).root)
  ·exact absurd (.inr (.inr (.inr (.inr (.inr (.inr (.inl g))))))) b
  ·rfl
 have hT:((ol (nz (tY (ol v.T) (sU s c1).aE))).length:Int)<=s.cFg.kU.nD:=by
  rw[mF];have:=length_filter_le (fun t:Table=>decide ((sU s c1).aE<=t.ck.aE)) (ol v.T);have:=h.nT;unfold tY;omega
 by_cases e:oB s c2=s.aI.fin
 ·have hS:pV s v c1 c2=_:=(if_neg b).trans (if_pos e)
  have hW:rE s v c1 c2=_:=(if_neg b).trans (if_pos e)
  rw[hS,hW] at hsd ⊢;exact⟨hsd,h.up,h.Ww,h.pos,h.nl,h.PK,h.jS,h.JB,h.nB,h.nO,h.LJ,h.nE,h.PL,hT,h.PM,h.nQ,h.O7,hJ⟩
 ·have hS:pV s v c1 c2=_:=(if_neg b).trans (if_neg e)
  have hW:rE s v c1 c2=_:=(if_neg b).trans (if_neg e)
  rw[hS,hW] at hsd ⊢;have rF:=cS v.ns (oB s c2).root
  have rJ:=cS v.ns (sU s c1).root
  have Wv:=Ar h.up hF rF.2
  have h1:=vS h.up Wv
  have h2:=vS h.up hA
  have hz:=Gw h.up Wv
  have hlen:=Um (ns:=v.ns) (aC v.ns (oB s c2).root)
  have XM:=h.nl
  refine⟨hsd,KU h.up Wv, ?_, ?_, ?_,h.PK,h.jS,h.JB,h.nB, ?_,h.LJ,h.nE,h.PL,hT,h.PM,h.nQ,h.O7, ?_⟩
  ·rw[hz] at h1;show (nd (gN v.ns (aC v.ns (oB s c2).root) v.ns.length).1 0).up=-1
   rw[h1.2.2,if_pos rfl]
  ·have:=h1.2.1;have:=h1.1
   show 0<(gN v.ns (aC v.ns (oB s c2).root) v.ns.length).1.length
   omega
  ·show (((gN v.ns (aC v.ns (oB s c2).root) v.ns.length).1.length:Nat):Int)<=s.cFg.kU.sL
   omega
  ·show ((ol (nz _)).length:Int)<=s.cFg.kU.vU
   rw[mF];have:=length_filter_le (fun b:Block=>decide ((sJ s (oB s c2).aE).1<b.slot)) (ol v.O);have:=h.nO;omega
  ·refine Ev h2.1 h2.2.1 ?_
   rw[h2.2.2];exact oH _ _ hJ
def Ew (v:SV) (b:Block):List Node:=v.ns++[⟨b,aC v.ns b.parent,Cb b⟩]
def Hd (s:aL) (v:SV) (b:Block):aL:={ s with tree:=⟨.sl (Ew v b).length (bV (Ew v b))⟩}
def xX (v:SV) (b:Block):SV:={ v with ns:=Ew v b }
def aAB (s:aL) (v:SV) (b:Block):aL:=pV (Hd s v b) (xX v b) b.eI b.fin
def G8 (s:aL) (v:SV) (b:Block):SV:=rE (Hd s v b) (xX v b) b.eI b.fin
def sT (s:aL) (v:SV) (b:Block):aL:=if wL s b.slot<wL s s.now then pV (aAB s v b) (G8 s v b) b.dW.pj b.dW.pf else aAB s v b
def kO (s:aL) (v:SV) (b:Block):SV:=if wL s b.slot<wL s s.now then rE (aAB s v b) (G8 s v b) b.dW.pj b.dW.pf else G8 s v b
def JC (b:Block):Ub (Cb b)=true:=by unfold Cb;split<;>rfl
def Zi {s:aL} {v:SV} {q:Int} (h:GI s v q) {b:Block} (hb:Cs s v b=0):FL v.ns b (Cb b)=0/\(v.ns.length:Int)<s.cFg.kU.sL/\0<=aC v.ns b.parent:=by
 unfold Cs at hb;by_cases g1:b.root=cO
 ·rw[if_pos g1] at hb;omega
 rw[if_neg g1] at hb;by_cases g2:Y8 v b.root
 ·rw[if_pos g2] at hb;omega
 rw[if_neg g2] at hb;by_cases g3:s.now<b.slot
 ·rw[if_pos g3] at hb;omega
 rw[if_neg g3] at hb;by_cases g4:b.slot<=(sJ s s.aI.fin.aE).1
 ·rw[if_pos g4] at hb;omega
 rw[if_neg g4] at hb;by_cases g5:aC v.ns b.parent<0
 ·rw[if_pos g5] at hb;omega
 rw[if_neg g5] at hb;by_cases g6:b.slot<=(nd v.ns (aC v.ns b.parent)).block.slot
 ·rw[if_pos g6] at hb;omega
 rw[if_neg g6] at hb;by_cases g7:(nd v.ns (aC v.ns b.parent)).status=2
 ·rw[if_pos g7] at hb;omega
 rw[if_neg g7] at hb;by_cases g8:¬BG s v b
 ·rw[if_pos g8] at hb;omega
 rw[if_neg g8] at hb;by_cases g9:¬QT s.cFg.BC (nd v.ns (aC v.ns b.parent)).block b
 ·rw[if_pos g9] at hb;omega
 rw[if_neg g9] at hb;by_cases g10:s.cFg.kU.sL<=(v.ns.length:Int)
 ·rw[if_pos g10] at hb;omega
 have:=h.PK
 refine⟨?_,by omega,by omega⟩
 unfold FL;rw[JC,if_neg (by simp),if_neg (fun h=>g2 (.inr h)),if_neg g5,if_neg g6,if_neg (by omega)]
def GI.Hd {s:aL} {v:SV} {q:Int} (h:GI s v q) {b:Block} (hb:(v.ns.length:Int)<s.cFg.kU.sL) (hp:0<=aC v.ns b.parent):GI (Hd s v b) (xX v b) q:=by
 have hlen:(Ew v b).length=v.ns.length+1:=by unfold Ew;simp
 have hnB:=h.PK
 have hsd:SD (Tryz.Hd s v b) (xX v b):=⟨h.sd.iF,h.sd.dS,h.sd.gA,h.sd.early,h.sd.bN,rfl,h.sd.tables,h.sd.eV,h.sd.tB,h.sd.nB,h.sd.nL,h.sd.nQ,h.sd.nE,h.sd.nO,h.sd.nT,by show ((Ew v b).length:Int)<1000000;omega⟩
 have rp:=cS v.ns b.parent
 refine⟨hsd,fun i h0 h1=>?_, ?_, ?_, ?_,h.PK,h.jS,h.JB,h.nB,h.nO,h.LJ,h.nE,h.PL,h.nT,h.PM,h.nQ,h.O7, ?_⟩
 ·have h1:i<((Ew v b).length:Int):=h1
  show 0<=(nd (Ew v b) i).up/\(nd (Ew v b) i).up<i
  by_cases hi:i<(v.ns.length:Int)
  ·unfold Ew;rw[mH (by omega) hi];exact h.up i h0 hi
  ·unfold Ew;rw[El (by omega)];exact⟨hp,by show aC v.ns b.parent<i;omega⟩
 ·show (nd (Ew v b) 0).up=-1
  unfold Ew;rw[mH (by omega) (by have:=h.pos;omega)];exact h.Ww
 ·show 0<(Ew v b).length;omega
 ·show ((Ew v b).length:Int)<=s.cFg.kU.sL;omega
 ·show 0<=aC (Ew v b) s.aI.eI.root
  have rj:=cS v.ns s.aI.eI.root
  refine Ev h.eI (by omega) ?_
  unfold Ew;rw[mH h.eI rj.2];exact oH _ _ h.eI
def GI.ins {s:aL} {v:SV} {q:Int} (h:GI s v q) {b:Block} (hb:Cs s v b=0):GI (sT s v b) (kO s v b) q:=by
 obtain⟨_,h2,h3⟩:=Zi h hb
 have g1:=h.Hd h2 h3
 have g2:=g1.dP b.eI b.fin
 unfold sT kO;split
 ·exact g2.dP _ _
 ·exact g2
def Cv (s:aL) (v:SV) (b:Block):(sT s v b).cFg=s.cFg/\(sT s v b).now=s.now:=by
 unfold sT;split
 ·rw[uB,Rm];unfold aAB;rw[uB,Rm];exact⟨rfl,rfl⟩
 ·unfold aAB;rw[uB,Rm];exact⟨rfl,rfl⟩
def aL0 {s:aL} {v:SV} {q:Int} (h:GI s v q) {b:Block} (hb:Cs s v b=0):aG prog 217 [.agg (aA s),.agg (aU b)]=some (.agg (aA (sT s v b))):=by
 obtain⟨h1,h2,h3⟩:=Zi h hb
 have g1:=h.Hd h2 h3
 have g2:=g1.dP b.eI b.fin
 have hi:Jf v.ns b (Cb b)=.eH [.agg (cH ⟨Ew v b⟩),.v (.int .i64 0)]:=if_pos h1
 have aAC:=aO2 v.ns h.sd.nn b (Cb b)
 rw[hi] at aAC
 have k61a:=k61 g1.sd g1.up g1.sp b.eI b.fin
 have k61b:=k61 g2.sd g2.up g2.sp b.dW.pj b.dW.pf
 have hcfg:(pV (Tryz.Hd s v b) (xX v b) b.eI b.fin).cFg.jS=s.cFg.jS:=by rw[uB];rfl
 have aAD:(pV (Tryz.Hd s v b) (xX v b) b.eI b.fin).now=s.now:=by rw[Rm];rfl
 have hep:∀x,wL (pV (Tryz.Hd s v b) (xX v b) b.eI b.fin) x=wL s x:=fun x=>by unfold wL;rw[hcfg]
 have O8:=Oo (pV (Tryz.Hd s v b) (xX v b) b.eI b.fin) g2.sp g2.sd.flat
 have e1:({ cFg:=s.cFg,fP:=s.fP,aI:=s.aI,cM:=s.cM,tree:=⟨.sl (Ew v b).length (bV (Ew v b))⟩,now:=s.now,dV:=s.dV,tables:=s.tables }:aL)=Tryz.Hd s v b:=rfl
 rw[cL func217 rfl rfl];refine iA ?_
 by_cases c:wL s b.slot<wL s s.now
 ·have hv:sT s v b=_:=if_pos c
  have LK:=(g2.dP b.dW.pj b.dW.pf).sd.flat
  simp only[Z8,seval,h.sd.tree,aLQ,aAC,dR,e1,k61a,O8,hep,aAD,c,k61b];exact⟨_,fM rfl (by simp only[E8,seval,LK]<;>rfl) (by simp only[Z8,seval,LK]<;>rfl) (by simp only[jE,and_self,LK]),by rw[hv];rfl⟩
 ·have hv:sT s v b=_:=if_neg c
  have LK:=g2.sd.flat
  simp only[Z8,seval,h.sd.tree,aLQ,aAC,dR,e1,k61a,O8,hep,aAD,c];exact⟨_,fM rfl (by simp only[E8,seval,LK]<;>rfl) (by simp only[Z8,seval,LK]<;>rfl) (by simp only[jE,and_self,LK]),by rw[hv];rfl⟩
def Uq {L:List Block} {k:Nat} (hk:k<=L.length) (a g:Nat):∃X,(∀(st:St) (hi:Operand),st.ev hi=.v (.int .i64 k)->st.heap a g=some (.row 74 238 L.length (aH L))->cZ prog st 45 (.own a g) none (some hi)=some X) /\
 (∀st:St,st.heap a g=some (.row 74 238 L.length (aH L))->aV st X=some ((L.take k).length,aH (L.take k))):=by
 have hl:(L.take k).length=k:=by simp;omega
 by_cases h0:k=0/\L.length=0
 ·obtain⟨rfl,h1⟩:=h0
  refine⟨.sl 0 [],fun st hi he hh=>?_,fun st hh=>by simp[aV,aH]⟩
  simp[cZ,nF,hh,he,h1]
 ·refine⟨.vw a g 0 k,fun st hi he hh=>?_,fun st hh=>?_⟩
  ·have:¬((0:Int)=k/\¬((0:Int)=0/\0<L.length)):=by omega
   have h2:(0:Int)<=k/\(k:Int)<=L.length:=by omega
   simp only[cZ,nF,hh,he,if_neg this,h2,Int.le_refl,and_self,if_true];simp
   intro h3 h4;rw[h4] at h0;simp at h0
   omega
  ·have hb:k * 238<=(aH L).length:=by rw[pO];exact Nat.mul_le_mul_right _ hk
   have:=xI (c:=aU) (sz:=238) bO L k
   simp only[aV,hh,Nat.zero_add,hb,if_true,drop_zero,hl];exact congrArg (fun z=>some (k,z)) this
def Ey {L:List Block} {k:Nat} (hk:k<=L.length) (a g:Nat):∃X,(∀(st:St) (lo:Operand),st.ev lo=.v (.int .i64 k)->st.heap a g=some (.row 74 238 L.length (aH L))->cZ prog st 45 (.own a g) (some lo) none=some X) /\
 (∀st:St,st.heap a g=some (.row 74 238 L.length (aH L))->aV st X=some ((L.drop k).length,aH (L.drop k))):=by
 have hl:(L.drop k).length=L.length-k:=by simp
 by_cases h0:k=L.length
 ·by_cases hz:0<k
  ·refine⟨.sl 0 [],fun st lo he hh=>?_,fun st hh=>by rw[h0];simp[aV,aH]⟩
   have:(k:Int)=L.length/\¬((k:Int)=0/\0<L.length):=by omega
   have h2:(0:Int)<=k/\(k:Int)<=L.length:=by omega
   simp only[cZ,nF,hh,he,if_pos this,h2,Int.le_refl,and_self,if_true]
  ·refine⟨.sl 0 [],fun st lo he hh=>?_,fun st hh=>by rw[h0];simp[aV,aH]⟩
   have:(k:Int)=L.length/\¬((k:Int)=0/\0<L.length):=by omega
   have h2:(0:Int)<=k/\(k:Int)<=L.length:=by omega
   simp only[cZ,nF,hh,he,if_pos this,h2,Int.le_refl,and_self,if_true]
 ·refine⟨.vw a g (k * 238) (L.length-k),fun st lo he hh=>?_,fun st hh=>?_⟩
  ·have h1:¬((k:Int)=L.length/\¬((k:Int)=0/\0<L.length)):=by omega
   have h2:((L.length:Int)-(k:Int)).toNat=L.length-k:=by omega
   have h3:(0:Int)<=k/\(k:Int)<=L.length:=by omega
   simp only[cZ,nF,hh,he,if_neg h1,h3,Int.le_refl,and_self,if_true,h2,Int.toNat_natCast]
  ·have hb:k * 238+(L.length-k) * 238<=(aH L).length:=by rw[pO,<- Nat.add_mul];exact Nat.mul_le_mul_right _ (by omega)
   have:=Cw (c:=aU) (sz:=238) bO L k
   have h3:((aH L).drop (k * 238)).length=(L.length-k) * 238:=by rw[length_drop,pO,Nat.sub_mul]
   simp only[aV,hh,hb,if_true,hl];rw[take_of_length_le (by omega)]
   exact congrArg (fun z=>some (L.length-k,z)) this
def GI.dV {s:aL} {v:SV} {q:Int} (h:GI s v q) (r:cC):GI { s with dV:=r } v q :=
 ⟨⟨h.sd.iF,h.sd.dS,h.sd.gA,h.sd.early,h.sd.bN,h.sd.tree,h.sd.tables,h.sd.eV,h.sd.tB,h.sd.nB,h.sd.nL,h.sd.nQ,h.sd.nE,h.sd.nO,h.sd.nT,h.sd.nn⟩,h.up,h.Ww,h.pos,h.nl,h.PK,h.jS,h.JB,h.nB,h.nO,h.LJ,h.nE,h.PL,h.nT,h.PM,h.nQ,h.O7,h.eI⟩
def mP (s:aL) (x:AV):aL:={ s with cM:={ s.cM with bN:=x }}
def GI.RC {s:aL} {v:SV} {q:Int} (h:GI s v q) (O:Option (List Block)) (hO:((ol O).length:Int)<=s.cFg.kU.vU):GI (mP s (ov aH O)) { v with O:=O } q :=
 ⟨⟨h.sd.iF,h.sd.dS,h.sd.gA,h.sd.early,rfl,h.sd.tree,h.sd.tables,h.sd.eV,h.sd.tB,h.sd.nB,h.sd.nL,h.sd.nQ,h.sd.nE,by have:=h.LJ;show ((ol O).length:Int)<1000000;omega,h.sd.nT,h.sd.nn⟩,h.up,h.Ww,h.pos,h.nl,h.PK,h.jS,h.JB,h.nB,hO,h.LJ,h.nE,h.PL,h.nT,h.PM,h.nQ,h.O7,h.eI⟩
def ZB (s:aL) (v:SV) (c1 c2:dL):(ol (rE s v c1 c2).O).length<=(ol v.O).length:=by
 unfold rE;split
 ·exact Nat.le_refl _
 split
 ·exact Nat.le_refl _
 ·show (ol (nz _)).length<=_
  rw[mF];exact length_filter_le _ _
def ZD (s:aL) (v:SV) (b:Block):(ol (kO s v b).O).length<=(ol v.O).length:=by
 unfold kO;split
 ·exact Nat.le_trans (ZB _ _ _ _) (ZB _ _ _ _)
 ·exact ZB _ _ _ _
def Az {s:aL} {v:SV} (h:SD s v) {O:List Block} {a g:Nat} (st:St) (hh:st.heap a g=some (.row 74 238 O.length (aH O))):fS st (.agg (aA (mP s (.own a g))))=some (.agg (aA (mP s (ov aH (some O))))):=by
 have pH:=h.fl
 unfold mP;simp only[bP,gH,bM,hh,uZ,cY,jE,pH,cF];rfl
end Go.Ab.Tryz
