/-
  Part 3 of the proof: an evaluator of programs, its soundness, and what functions of this program compute.
-/
import Derived.Test.YthkgnakbkaafgaaGreatK2
import Derived.Deep.Upon
set_option linter.all false
set_option maxRecDepth 20000
set_option maxHeartbeats 40000000
open List
noncomputable section
section
namespace Go.Ab
open Classical
variable {T ty:Nat} {v sv xv:Value} {x:AV} {call:Nat->List AV->Option AV} {o:Oper}
section
variable {P:Program} {h0:Nat->Obj->Prop} {w0:World} {F:Jb} {nt:Nat} {ρ:Nat->Nat->Value} {st:St} {a:Act} {w:World} {K:Act->World->Prop} {Q:Exit->Act->World->Prop}
theorem Hz {base e:Nat} {l:TypeInfo} {ez:Value} (hT:P.underlying T=some (.slice e)) (Y:P.info? e=some l) (Yu:l.zero=some ez) (Rl:ez.cells.size=l.size) (Bg:0<l.size)
 (vE:base<=w.heap.size) {n:Nat} {xs:List Value} (C:kK w base e l.size v n xs)
 {p:Option Addr} {m c:Nat} {news:List Value} (W:news.length=m * l.size) (aHm:news≠[]->∃D,p=some D/\∀(j:Nat) (u:Value),news[j]? = some u->w.cell? (D.add j)=some u)
 (J:∀u∈news,u.oneCell'=true) (h63:n+m<=maxLen) (hb:(n+m) * l.bytes<=140737488355328) :
 ∃S w',(Builtin.append_ #[T,T] ty #[v,.slice p m c]).run P w=.ok S w'/\kK w' base e l.size S (n+m) (xs++news)/\w.grownBy w' (cW v)/\(∀b,cW S=some b->cW v=some b\/w.heap.size<=b):=by
 by_cases hm:m=0
 ·subst hm;have M:news=[]:=eq_nil_of_length_eq_zero (by simpa using W)
  subst M;refine⟨v,w, ?_,jb,⟨rfl,rfl,rfl,Nat.le_refl _,fun _ _ _=>rfl⟩,fun b hb=>.inl hb⟩
  have hfc:∀(x:Value),(∃p,x=.slice p 0 c)->(Builtin.firstCells l.size 0 x).run P w=.ok #[] w:=by
   rintro x ⟨p,rfl⟩
   cases p<;>simp[Builtin.firstCells,loadCells,loadCellsFrom]
  rcases C.2 with ⟨q,rfl,rfl⟩|⟨g,cap,cur,rfl,_,_,Xd,_⟩
  ·cases q<;>simp[Builtin.append_,bJ hT,run_sizeOf w Y,Builtin.lenOf,hfc _ ⟨p,rfl⟩,storeCells]
  ·simp[Builtin.append_,bJ hT,run_sizeOf w Y,Builtin.lenOf,hfc _ ⟨p,rfl⟩,Xd,storeCells]
 ·have mC:news≠[]:=by
   intro h;subst h;have:0<m * l.size:=Nat.mul_pos WF Bg
   grind
  obtain⟨D,rfl,B9⟩:=aHm mC
  have hlen:(xs++news).length=(n+m) * l.size:=by rw[length_append,C.1,W,Nat.add_mul]
  have grow:∀(G:Addr) (cap:Nat),cap<n+m->(∀(j:Nat) (u:Value),xs[j]? = some u->w.cell? (G.add j)=some u)->∃S w',(Builtin.append_ #[T,T] ty #[.slice (some G) n cap,.slice (some D) m c]).run P w=.ok S w' /\
   kK w' base e l.size S (n+m) (xs++news)/\w.grownBy w' none/\∀b,cW S=some b->w.heap.size<=b:=by
   intro G cap Zl holds;have X:=run_append_grow (P:=P) w T ty e l ez hT Y Yu G n cap xs C.1 holds D m c news W B9 WF ot (growslice_fits WF hb)
   have y7:=grownCap_ge w (n+m) cap e
   have aQc:=grownCap_le_maxLen w (n+m) cap e h63
   refine⟨_,_,X,⟨hlen,.inr ⟨w.heap.size,_,_,rfl,vE,heap_alloc_new w.drew _,y7,aQc, ?_, ?_,WF⟩⟩,⟨rfl,rfl,rfl,qe,fun k R _=>heap_alloc_old w.drew _ R⟩,fun b hb=>?_⟩
   ·simp only[Array.size_append,size_toArray,size_zeroCells,Rl,C.1,W,<- Nat.add_mul];grind
   all_goals grind [gK]
  rcases C.2 with ⟨q,rfl,rfl⟩|⟨g,cap,cur,rfl,hbg,hg,Xd,KJ,Tq,htake,A⟩
  ·have N:xs=[]:=eq_nil_of_length_eq_zero (by simpa using C.1)
   cases q with
   | none =>
     subst N;obtain⟨S,w',X,ho,hgr,_⟩:=run_append_own (P:=P) w w.heap.size T ty e l ez l.size l.bytes hT Y Yu rfl rfl Rl Bg (.slice none 0 0) 0 [] (World.ownsRow_nil w _ e l.size)
      D m c news W B9 J (by simpa using h63) (by simpa using hb) (Nat.le_refl _)
     exact⟨S,w',X,wX (yB ho) vE,hgr,fun b hb=>.inr ((As (yB ho) b hb).1)⟩
   | some G =>
     obtain⟨S,w',X,ho,hgr,r⟩:=grow G 0 WF (by rw[N];simp)
     grind [pH]
  ·by_cases Zl:n+m<=cap
   ·have aDx:n * l.size+news.length<=cur.size:=by rw[W,Tq,<- Nat.add_mul];exact Nat.mul_le_mul_right _ Zl
    have X:=run_append_room (P:=P) w T ty e l hT Y g n cap cur hg D m c news W B9 J Zl aDx
    refine⟨_,_,X,⟨hlen,.inr ⟨g,cap,_,rfl,hbg,setRow_heap w g cur _ e _ hg,Zl,KJ, ?_, ?_,A⟩⟩,⟨rfl,rfl,rfl,qe,fun k _ R=>setRow_other w g k _ (fun e=>R (by rw[gK A,e]))⟩,fun b hb=>.inl (by rw[gK A] at hb ⊢;exact hb)⟩
    all_goals grind
   ·have holds:∀(j:Nat) (u:Value),xs[j]? = some u->w.cell? ((⟨g,0,none⟩:Addr).add j)=some u:=fun j u hu=>by
     grind [mD,cell_of_row]
    obtain⟨S,w',X,ho,hgr,r⟩:=grow ⟨g,0,none⟩ cap WF holds
    grind [World.grownBy.mk,World.grownBy.os,World.grownBy.tape,World.grownBy.output,World.grownBy.size,World.grownBy.block]
theorem mV (dst:Option Nat) (v:AV) (d:Nat) (x:mH):rI.apply { dst:=dst,val:=v,new:=some (d,[x])} st=(st.new d x).put dst v:=by
 simp only[rI.apply,DB]
theorem Xj (dst:Option Nat) (v:AV) (s g d:Nat) (z:Option mH) (x:mH):rI.apply { dst:=dst,val:=v,dE:=some (s,g,z),new:=some (d,[x])} st=((st.gV s g z).new d x).put dst v:=by
 simp only[rI.apply,DB]
theorem TZ (S:kI F h0 w0 nt ρ st a w) {d:Nat} {s:AV} {u:Option (Nat × Nat)} {r:mH} (l:d<nt) (h:dS P st T s x=some (u,r))
 (hs:cD (ctx h0 w0 ρ st w) s sv) (N:cD (ctx h0 w0 ρ st w) x xv) :
 ∃v w' oZ,(Builtin.append_ #[T,T] ty #[sv,xv]).run P w=.ok v w' /\
  kI F h0 w0 nt oZ (rI.apply { dst:=some d,val:=.own d (st.aJ d),dE:=u.map fun p=>(p.1,p.2,none),new:=some (d,[r])} st) (a.put (some d) v) w':=by
 unfold dS at h;cases Wt:dD P T with
 | none=>simp[Wt] at h
 | some t =>
   obtain⟨e,sz,by_⟩:=t
   simp only[Wt] at h;obtain⟨ei,J,hT,Y,Yu,rfl,Rl,rfl,Bg⟩:=kS Wt
   cases hv:bA st x with
   | none=>simp[hv] at h
   | some mn =>
     obtain⟨m,news⟩:=mn
     simp only[hv] at h;split at h
     ·rename_i hlen;obtain⟨p,c,rfl,aHm⟩:=tY S hv N
      have aHv:∃nv:List Value,dN (ctx h0 w0 ρ st w) news nv/\(nv≠[]->∃ad,p=some ad/\∀(j:Nat) (u:Value),nv[j]? = some u->w.cell? (ad.add j)=some u):=by
       by_cases mC:news=[]
       ·subst mC;exact⟨[],.nil _,fun h=>absurd rfl h⟩
       grind [mD,cell_of_row]
      obtain⟨nv,Xd,pA⟩:=aHv
      have hnl:nv.length=m * ei.size:=by rw[<- Xd.len,hlen]
      have Ft:∀u∈nv,u.oneCell'=true:=fun u hu=>by
       obtain⟨j,hj,rfl⟩:=getElem_of_mem hu
       exact Xd.one j _ qe
      split at h
      ·split at h
       ·rename_i G;simp only[cQ,Prod.mk.injEq] at h;obtain⟨rfl,rfl⟩:=h
        have:=iM hs
        subst this;obtain⟨v',w',X,ho,hg,hfr⟩:=Hz (P:=P) (w:=w) (base:=w.heap.size) (ty:=ty) hT Y Yu Rl Bg (Nat.le_refl _) (yB (World.ownsRow_nil w _ e ei.size)) (p:=p) (c:=c) hnl pA Ft (by simpa using G.2) (by simpa using G.1)
        simp only[Nat.zero_add,nil_append] at ho;obtain⟨oZ,S'⟩:=S.newRow d l hg e ei.size m news nv v' ho Xd
        grind [mV]
       ·cases h
      ·rename_i D g'
       cases he:st.heap D g' with
       | none=>simp[he] at h
       | some e' =>
         cases e' with
         | row M sz2 n cs =>
           simp only[he] at h;split at h
           ·rename_i G;obtain⟨rfl,rfl,hb,h63⟩:=G
            simp only[cQ,Prod.mk.injEq] at h;obtain⟨rfl,rfl⟩:=h
            obtain⟨_,_,xs,ho,Tq⟩:=S.tG D g' _ he
            cases hs with
            | own _ _ hg1 ho1 =>
              obtain⟨v',w',X,ho',hg,hfr⟩:=Hz (P:=P) (w:=w) (ty:=ty) hT Y Yu Rl Bg S.ext.size ho (p:=p) (c:=c) hnl pA Ft h63 hb
              obtain⟨S',k,W⟩:=S.QS he hg d (.row M ei.size (n+m) (cs++news)) v' (pI ho') hfr (fun C k=>⟨xs++nv,ho',(Tq.app Xd).le k⟩)
              have A:st.aJ d<(ctx h0 w0 (sD ρ d (st.aJ d) v') ((st.gV D g' none).new d (.row M ei.size (n+m) (cs++news))) w').aJ d:=mw
              have lP:(ctx h0 w0 (sD ρ d (st.aJ d) v') ((st.gV D g' none).new d (.row M ei.size (n+m) (cs++news))) w').ρ d (st.aJ d)=v':=W
              have:=cD.own (C:=ctx h0 w0 (sD ρ d (st.aJ d) v') ((st.gV D g' none).new d (.row M ei.size (n+m) (cs++news))) w') d (st.aJ d) A (by rw[lP];exact pI ho')
              rw[lP] at this;have hS:=S'.put (some d) (fun t ht=>by cases ht;exact l) this
              exact⟨v',w',_,X,by rw[Option.map_some,Xj];exact hS⟩
           ·cases h
         | _=>simp[he] at h
      ·rename_i n cs;split at h
       ·rename_i G;obtain⟨c1,c2,c3,c4⟩:=G
        simp only[cQ,Prod.mk.injEq] at h;obtain⟨rfl,rfl⟩:=h
        have main:∀(q:Option Addr) (ys:List Value),sv=.slice q n n->dN (ctx h0 w0 ρ st w) cs ys->(ys≠[]->∃ad,q=some ad/\∀(j:Nat) (u:Value),ys[j]? = some u->w.cell? (ad.add j)=some u) ->
         ∃v' w',(Builtin.append_ #[T,T] ty #[sv,.slice p m c]).run P w=.ok v' w'/\kK w' w.heap.size e ei.size v' (n+m) (ys++nv)/\w.grownBy w' none:=by
         rintro q ys rfl KL hcell'
         have hyl:ys.length=n * ei.size:=by rw[<- KL.len,c1]
         by_cases hm:m=0
         ·have hn0:n=0:=WF
          subst hm;subst hn0;have hy0:ys=[]:=eq_nil_of_length_eq_zero (by simpa using hyl)
          have hn0:nv=[]:=eq_nil_of_length_eq_zero (by simpa using hnl)
          subst hy0;subst hn0;obtain⟨v',w',X,ho,hg,_⟩:=Hz (P:=P) (w:=w) (base:=w.heap.size) (ty:=ty) (v:=.slice q 0 0) (n:=0) (xs:=[]) hT Y Yu Rl Bg (Nat.le_refl _) ⟨qe,.inl ⟨q,rfl,rfl⟩⟩ (p:=p) (c:=c) hnl pA qe c4 c3
          grind [pH]
         ·have mC:nv≠[]:=by
           intro h;rw[h] at hnl;have:0<m * ei.size:=Nat.mul_pos WF Bg
           grind
          obtain⟨ad,rfl,B9⟩:=pA mC
          have hlen':(ys++nv).length=(n+m) * ei.size:=qg
          cases q with
          | none =>
            have hy0:ys=[]:=by
             grind
            subst hy0;have hn0:n=0:=by
             rcases Nat.eq_zero_or_pos n with h|h
             ·exact h
             ·have:=Nat.mul_pos h Bg
              grind
            subst hn0;obtain⟨v',w',X,ho,hg,_⟩:=Hz (P:=P) (w:=w) (base:=w.heap.size) (ty:=ty) (v:=.slice none 0 0) (n:=0) (xs:=[]) hT Y Yu Rl Bg (Nat.le_refl _) ⟨qe,.inl ⟨none,rfl,rfl⟩⟩ (p:=some ad) (c:=c) hnl pA Ft c4 c3
            grind [pH]
          | some ga =>
            have holds:∀(j:Nat) (u:Value),ys[j]? = some u->w.cell? (ga.add j)=some u:=fun j u hu=>by
             have aN9:ys≠[]:=qg
             grind
            have X:=run_append_grow (P:=P) w T ty e ei J hT Y Yu ga n n ys hyl holds ad m c nv hnl B9 WF ot (growslice_fits WF c3)
            have y7:=grownCap_ge w (n+m) n e
            have aQc:=grownCap_le_maxLen w (n+m) n e c4
            refine⟨_,_,X,⟨hlen',.inr ⟨w.heap.size,_,_,rfl,Nat.le_refl _,heap_alloc_new w.drew _,y7,aQc, ?_, ?_,WF⟩⟩,⟨rfl,rfl,rfl,qe,fun k R _=>heap_alloc_old w.drew _ R⟩⟩
            ·simp only[Array.size_append,size_toArray,size_zeroCells,Rl,hyl,hnl,<- Nat.add_mul];grind
            grind
        have fin:∀(ys:List Value),dN (ctx h0 w0 ρ st w) cs ys->(∃v' w',(Builtin.append_ #[T,T] ty #[sv,.slice p m c]).run P w=.ok v' w'/\kK w' w.heap.size e ei.size v' (n+m) (ys++nv)/\w.grownBy w' none) ->
         ∃v w' oZ,(Builtin.append_ #[T,T] ty #[sv,.slice p m c]).run P w=.ok v w' /\
          kI F h0 w0 nt oZ (rI.apply { dst:=some d,val:=.own d (st.aJ d),dE:=(none:Option (Nat × Nat)).map fun p=>(p.1,p.2,none),new:=some (d,[.row e ei.size (n+m) (cs++news)])} st) (a.put (some d) v) w':=by
         rintro ys KL ⟨v',w',X,ho,hg⟩
         obtain⟨oZ,S'⟩:=S.newRow d l hg e ei.size (n+m) (cs++news) (ys++nv) v' ho (KL.app Xd)
         grind [mV]
        cases hs with
        | cc n q=>exact fin [] (.nil _) (main q [] rfl (.nil _) qe)
        | cl n cs b off arr T' fr hb hle X KE =>
          have Hr:dN (ctx h0 w0 ρ st w) cs ((arr.toList.drop off).take cs.length):=by
           grind [dN.mk]
          refine fin _ Hr (main _ _ rfl Hr fun _=>⟨⟨b,off,none⟩,rfl,fun j u hu=>?_⟩)
          rw[mD,cell_of_row w b (off+j) arr T' fr hb.1];grind
       ·cases h
      ·cases h
     ·cases h
theorem LQ (S:kI F h0 w0 nt ρ st a w) {s:AV} {u:Nat × Nat × mH × Nat} (h:lH P st T s x=some u)
 (hs:cD (ctx h0 w0 ρ st w) s sv) (N:cD (ctx h0 w0 ρ st w) x xv) :
 ∃v w',(Builtin.append_ #[T,T] ty #[sv,xv]).run P w=.ok v w'/\kI F h0 w0 nt ρ (st.gV u.1 u.2.1 (some u.2.2.1)) a w' /\
  cD (ctx h0 w0 ρ (st.gV u.1 u.2.1 (some u.2.2.1)) w') (.vw u.1 u.2.1 0 u.2.2.2) v:=by
 unfold lH at h;split at h
 ·rename_i e sz by_ m news D g' k Wt hv
  obtain⟨l,ez,hT,Jc,Yu,rfl,Rl,rfl,Bg⟩:=kS Wt
  cases he:st.heap D g' with
  | none=>simp[he] at h
  | some en =>
    cases en with
    | row e' vK n cs =>
      simp only[he] at h;split at h
      ·rename_i G;obtain⟨rfl,rfl,hlen,aDx⟩:=G
       simp only[cQ] at h;subst h;obtain⟨p,c,rfl,aHm⟩:=tY S hv N
       have aHv:∃R:List Value,dN (ctx h0 w0 ρ st w) news R/\(R≠[]->∃ad,p=some ad/\∀(j:Nat) (u:Value),R[j]? = some u->w.cell? (ad.add j)=some u):=by
        by_cases mC:news=[]
        ·subst mC;exact⟨[],.nil _,fun h=>absurd rfl h⟩
        grind [mD,cell_of_row]
       obtain⟨R,W,pA⟩:=aHv
       have hnl:R.length=m * l.size:=by rw[<- W.len,hlen]
       have Ft:∀u∈R,u.oneCell'=true:=fun u hu=>by
        obtain⟨j,Y,rfl⟩:=getElem_of_mem hu
        exact W.one j _ qe
       obtain⟨_,_,xs,ho,J⟩:=S.tG D g' _ he
       cases hs with
       | vw _ _ _ _ b cap hg hb nM wR =>
         have r:cW (ρ D g')=some b:=hb
         rcases ho.2 with ⟨q,lP,hn⟩|⟨X,DF,cur,lP,vE,hh,aDB,KJ,Tq,ht,A⟩
         ·grind [pH]
         ·have Pn:X=b:=ji
          subst Pn;have hcc:cap=DF:=wR rfl _ _ _ lP
          subst hcc;have hkm:(k+m) * l.size<=n * l.size:=Nat.mul_le_mul_right _ aDx
          have hnn:n * l.size<=cap * l.size:=Nat.mul_le_mul_right _ aDB
          rw[Nat.add_mul] at hkm;have hcl':cur.toList.length=cur.size:=rfl
          have xK:(Builtin.append_ #[T,T] ty #[.slice (some ⟨X,0,none⟩) k cap,.slice p m c]).run P w=.ok (.slice (some ⟨X,0,none⟩) (k+m) cap) (w.setRow X (cur.toList.take (k * l.size)++R++cur.toList.drop (k * l.size+R.length)).toArray):=by
           by_cases mC:R=[]
           ·have hm:m=0:=by
             grind [Nat.mul_pos]
            subst hm;have hfc:∀(x:Value),(∃p,x=.slice p 0 c)->(Builtin.firstCells l.size 0 x).run P w=.ok #[] w:=by
             rintro x ⟨p,rfl⟩
             cases p<;>simp[Builtin.firstCells,loadCells,loadCellsFrom]
            have e0:(cur.toList.take (k * l.size)++R++cur.toList.drop (k * l.size+R.length)).toArray=cur:=by
             rw[mC];simp
            rw[e0,setRow_self w X cur e' (0,0) hh];have hkc:k<=cap:=WF
            simp[Builtin.append_,bJ hT,run_sizeOf w Jc,Builtin.lenOf,hfc _ ⟨p,rfl⟩,storeCells,hkc]
           grind [run_append_room]
          have hxl:=ho.1
          have hcsl:=J.len
          have M:=S.store (e':=.row e' l.size n (cs.take (k * l.size)++news++cs.drop (k * l.size+m * l.size))) (w':=w.setRow X (cur.toList.take (k * l.size)++R++cur.toList.drop (k * l.size+R.length)).toArray) he r ⟨rfl,rfl,rfl,qe,fun j _ Y=>setRow_other w X j _ (fun e=>Y (by rw[e]))⟩ (fun C kC=>by
           refine⟨xs.take (k * l.size)++R++xs.drop (k * l.size+m * l.size),⟨qs,.inr ⟨X,cap,_,lP,vE,setRow_heap w X cur _ e' (0,0) hh,aDB,KJ,qs, ?_,A⟩⟩,(((J.take _).app W).app (J.drop _)).le kC⟩
           simp only
           rw[<- ht,hnl];have l1:(cur.toList.take (k * l.size)++R).length=k * l.size+m * l.size:=qs
           grind [take_append,take_of_length_le,drop_take])
          exact⟨_,_,xK,M,.vw D g' 0 _ X cap hg hb qg (fun _=>wR rfl)⟩
      ·cases h
    | _=>simp[he] at h
 ·cases h
theorem C0 (S:kI F h0 w0 nt ρ st a w) {u:Option (Nat × Nat × mH)} (h:tC P st T x=some u) (N:cD (ctx h0 w0 ρ st w) x xv) :
 ∃w',(Builtin.clear_ #[T] ty #[xv]).run P w=.ok (.tuple #[]) w'/\kI F h0 w0 nt ρ (match u with|some p=>st.gV p.1 p.2.1 (some p.2.2)|none=>st) a w':=by
 unfold tC at h;split at h
 ·rename_i e sz by_ s g o k Wt _;obtain⟨l,J,hT,Jc,Yu,rfl,Rl,rfl,Bg⟩:=kS Wt
  split at h
  ·rename_i z e' vK n cs R he
   split at h
   ·rename_i G;obtain⟨rfl,rfl,aDx⟩:=G
    simp only[cQ] at h;subst h;obtain⟨i',zv,Nq,hzz,rfl,hz1⟩:=Bh R
    rw[Jc] at Nq
    cases Nq
    rw[Yu] at hzz;cases hzz
    obtain⟨_,_,xs,ho,Hr⟩:=S.tG s g _ he
    cases N with
    | vw _ _ _ _ b cap hg hb nM wR =>
      have r:cW (ρ s g)=some b:=hb
      rcases ho.2 with ⟨q,m,hn⟩|⟨X,DF,cur,m,vE,hh,aDB,KJ,Tq,D,A⟩
      ·grind [pH]
      ·have Pn:X=b:=ji
       subst Pn;have hxl:=ho.1
       have hcsl:=Hr.len
       have hnn:n * l.size<=DF * l.size:=Nat.mul_le_mul_right _ aDB
       have hcl':cur.toList.length=cur.size:=rfl
       have aHi:(Builtin.zeroCells J.cells k).toList=(List.range k).flatMap fun _=>J.cells.toList:=by
        grind [Builtin.zeroCells,Lh]
       have hzl:((List.range k).flatMap fun _=>J.cells.toList).length=k * l.size:=by
        rw[<- aHi,Array.length_toList,size_zeroCells,Rl]
       have hz1':∀v∈(List.range k).flatMap fun _=>J.cells.toList,v.oneCell'=true:=fun v hv=>by
        grind
       have oP:=run_storeCells_at P X o e' ((List.range k).flatMap fun _=>J.cells.toList) 0 cur w hh (by rw[hzl];omega) hz1'
       simp only[Nat.add_zero] at oP;have M:=S.store (e':=.row e' l.size n (cs.take o++((List.range k).flatMap fun _=>J.cells.toList.map .v)++cs.drop (o+k * l.size))) (w':=w.setRow X (cur.toList.take o++((List.range k).flatMap fun _=>J.cells.toList)++cur.toList.drop (o+((List.range k).flatMap fun _=>J.cells.toList).length)).toArray) he r ⟨rfl,rfl,rfl,qe,fun j _ Y=>setRow_other w X j _ (fun e=>Y (by rw[e]))⟩ (fun C kC=>by
        refine⟨xs.take o++((List.range k).flatMap fun _=>J.cells.toList)++xs.drop (o+k * l.size),⟨qg,.inr ⟨X,DF,_,m,vE,setRow_heap w X cur _ e' (0,0) hh,aDB,KJ,by rw[size_toArray,length_append,length_append,hzl];simp;omega, ?_,A⟩⟩,(((Hr.take _).le kC).app (Nk hz1 k)).app ((Hr.drop _).le kC)⟩
        simp only
        rw[<- D,hzl];have l1:(cur.toList.take o++((List.range k).flatMap fun _=>J.cells.toList)).length=o+k * l.size:=by rw[length_append,hzl];simp;omega
        rw[take_append,l1,take_of_length_le WF,drop_take,take_take,Nat.min_eq_left WF])
       refine⟨_, ?_,M⟩
       have hzv:(zeroValue e').run P w=.ok J w:=by simp[zeroValue,typeInfo,Jc,Yu]
       cases k with
       | zero =>
         have e0:(cur.toList.take o++((List.range 0).flatMap fun _=>J.cells.toList)++cur.toList.drop (o+((List.range 0).flatMap fun _=>J.cells.toList).length)).toArray=cur:=qe
         rw[e0,setRow_self w X cur e' (0,0) hh];simp[Builtin.clear_,bJ hT]
       | succ k =>
         have hst2:(storeCells ⟨X,o,none⟩ (Builtin.zeroCells J.cells (k+1)).toList).run P w=.ok () (w.setRow X (cur.toList.take o++((List.range (k+1)).flatMap fun _=>J.cells.toList)++cur.toList.drop (o+((List.range (k+1)).flatMap fun _=>J.cells.toList).length)).toArray):=qg
         obtain⟨W,hW⟩:∃W,w.setRow X (cur.toList.take o++((List.range (k+1)).flatMap fun _=>J.cells.toList)++cur.toList.drop (o+((List.range (k+1)).flatMap fun _=>J.cells.toList).length)).toArray=W:=⟨_,rfl⟩
         rw[hW] at hst2;rw[hW];simp[Builtin.clear_,bJ hT,hzv,hst2]
   ·cases h
  ·cases h
 ·rename_i t cs Wt _;simp only[cQ] at h;subst h;obtain⟨e,sz,by_⟩:=t
  obtain⟨l,J,hT,_⟩:=kS Wt
  refine⟨w, ?_,S⟩
  cases N with
  | QR n cap p nM=>cases p<;>simp[Builtin.clear_,bJ hT]
  | sl n cs b off cap arr T fr nM hb hle hr h1=>simp[Builtin.clear_,bJ hT]
 ·rename_i t Wt _;simp only[cQ] at h;subst h;obtain⟨e,sz,by_⟩:=t
  obtain⟨l,J,hT,_⟩:=kS Wt
  have:=iM N
  simp_all [Builtin.clear_,bJ]
 ·cases h
theorem Y2 {C:Ctx} {g:Nat} {G:List AV} (h:XM x=some (g,G)) (X:cD C x v):∃A,v=.func (.func g) #[] A/\jD C G A.toList:=by
 unfold XM at h;split at h
 ·grind [iM,jD.nil]
 ·simp only[cQ,Prod.mk.injEq] at h;obtain⟨rfl,rfl⟩:=h
  cases X<;>grind [jD.mk]
 ·cases h
variable [Ext]
theorem LR (S:kI F h0 w0 nt ρ st a w) (lM:mN P call) {c:Call} (vL:o.op=.call c) {e:rI}
 (h:iZ P call c o.dst st=some e) (l:∀d,o.dst=some d->d<nt)
 (hK:∀oZ a' w',kI F h0 w0 nt oZ (e.apply st) a' w'->K a' w'):o.wp P a w K Q:=by
 have Uh:jD (ctx h0 w0 ρ st w) (c.args.toList.map st.ev) (c.args.toList.map a.eval):=jD.map _ _ _ fun p _=>S.ev p
 unfold iZ at h;split at h
 ·rename_i f W;have fin:∀g cv,a.eval f=.func (.func g) #[] cv->(Enters P g/\Calls P g (c.args.map a.eval++cv) w fun en w'=>∃v,en=.returned v/\K (a.put o.dst v) w')->o.wp P a w K Q:=by
   rintro g cv C ⟨⟨fn,aQd,aHw,hbody⟩,hcalls⟩
   have hnb:fn.body.isNone=false:=by
    simp_all
   have Ft : ¬ fn.name = "runtime.NumGoroutine" := by simpa using aHw
   have hn2:¬fn.body=none:=qg
   have xK:(execOp a.eval o).run P w=.ok (.enter g (c.args.map a.eval++cv)) w:=by
    simp[execOp,vL,resolve,W,C,Deferred.ofValue,invoke,callFunc,aQd,Ft,hn2]
   grind [Oper.wp,Oper.upon_enter,Calls.mono]
  have gen:∀g G,XM (st.ev f)=some (g,G)->aO call g (c.args.toList.map st.ev++G) st o.dst=some e->o.wp P a w K Q:=by
   intro g G hfn h;obtain⟨cv,C,hcaps⟩:=Y2 hfn (S.ev f)
   have gS:jD (ctx h0 w0 ρ st w) (c.args.toList.map st.ev++G) (c.args.map a.eval++cv).toList:=by
    simpa using Uh.app hcaps
   exact fin g cv C (An S lM h gS l hK)
  unfold pE at h;split at h
  ·rename_i g;split at h
   ·refine fin g #[] rfl ?_
    exact TV S lM h (by simpa using Uh) l hK
   ·split at h
    ·refine fin g #[] rfl ?_
     exact LM S (lM.CV _) h (by simpa using Uh) l hK
    ·exact fin g #[] rfl (An S (lM.CV _) h (by simpa using Uh) l hK)
  grind
 ·rename_i W;split at h
  ·rename_i x T N hT;cases hs:dD P T with
   | none=>simp[hs] at h
   | some t =>
     cases C:bA st (st.ev x) with
     | none=>simp[hs,C] at h
     | some nc =>
       obtain⟨n,cs⟩:=nc
       simp only[hs,C,cQ] at h;subst h;obtain⟨p,cap,aLe,_⟩:=tY S C (S.ev x)
       obtain⟨e,sz,by_⟩:=t
       obtain⟨ei,ez,hu,_⟩:=kS hs
       have Y:c.args=#[x]:=qg
       have D:c.argTypes=#[T]:=qg
       refine upon_value (v:=.int .i64 n) ?_ (hK ρ _ w (S.put o.dst l (.v _)))
       simp[execOp,vL,resolve,W,Y,D,invoke,builtin,Builtin.len_,aLe,bJ hu,goInt]
  ·cases h
 ·rename_i W;split at h
  ·rename_i x y N;split at h
   ·rename_i k p k' q J h2
    simp only[cQ] at h;subst h;have A:=S.ev x
    rw[J] at A;have A:=iM A
    have M:=S.ev y
    rw[h2] at M;have M:=iM M
    have Y:c.args=#[x,y]:=qg
    refine upon_value (v:=.int k (if q<p then q else p)) ?_ (hK ρ _ w (S.put o.dst l (.v _)))
    simp[execOp,vL,resolve,W,Y,invoke,builtin,Builtin.min_,Builtin.min2,A,M]
   ·cases h
  ·cases h
 ·rename_i W;split at h
  ·rename_i x y N;split at h
   ·rename_i k p k' q J h2
    simp only[cQ] at h;subst h;have A:=S.ev x
    rw[J] at A;have A:=iM A
    have M:=S.ev y
    rw[h2] at M;have M:=iM M
    have Y:c.args=#[x,y]:=qg
    refine upon_value (v:=.int k (if q > p then q else p)) ?_ (hK ρ _ w (S.put o.dst l (.v _)))
    simp[execOp,vL,resolve,W,Y,invoke,builtin,Builtin.max_,Builtin.max2,A,M]
   ·cases h
  ·cases h
 ·rename_i W;cases oL:o.dst with
  | none=>simp[oL,cT] at h
  | some d =>
  simp only[oL,cT] at h;split at h
  ·rename_i s x T T' N hT
   split at h
   ·rename_i hTT;subst hTT;split at h
    ·cases m:lH P st T (st.ev s) (st.ev x) with
     | none=>simp[m] at h
     | some u =>
     simp only[m,cR,cQ] at h;subst h;obtain⟨v,w',X,S',C⟩:=LQ (ty:=o.type) S m (S.ev s) (S.ev x)
     have Y:c.args=#[s,x]:=qg
     have D:c.argTypes=#[T,T]:=qg
     rw[oL] at l;have R:=hK ρ _ w' (S'.put (some d) l C)
     simp_all [Oper.wp,execOp,resolve,invoke,builtin,Oper.upon]
    split at h
    ·rename_i hpa;obtain⟨_,hs0,Wt,hv'⟩:=hpa
     obtain⟨⟨_,cs⟩,C,hv0⟩:=Option.map_eq_some_iff.1 hv'
     simp only at hv0
     subst hv0;simp only[cQ] at h;subst h;have A:=S.ev s
     rw[hs0] at A;have A:=iM A
     obtain⟨q,c',hxv,_⟩:=tY S C (S.ev x)
     cases hsi:dD P T with
     | none=>grind
     | some t =>
     obtain⟨e,sz,by_⟩:=t
     obtain⟨ei,ez,hT',Jc,_⟩:=kS hsi
     have hz:∀w:World,(Builtin.firstCells ei.size 0 (.slice q 0 c')).run P w=.ok ([]:List Value).toArray w:=fun w=>by cases q<;>simp[Builtin.firstCells,loadCells,loadCellsFrom]
     have X:(Builtin.append_ #[T,T] o.type #[.slice none 0 0,.slice q 0 c']).run P w=.ok (.slice none 0 0) w:=run_append_nothing w T T o.type e ei hT' Jc none 0 0 (Nat.le_refl _) _ ⟨.inl ⟨e,hT'⟩,fun w'=>by simp[Builtin.lenOf],hz _,hz _,qe,qe⟩
     have Y:c.args=#[s,x]:=qg
     have D:c.argTypes=#[T,T]:=qg
     rw[oL] at l;refine upon_value (v:=.slice none 0 0) ?_ (by rw[oL];exact hK ρ _ w (S.put (some d) l (.v _)))
     simp[execOp,vL,resolve,W,Y,D,invoke,builtin,A,hxv,X]
    cases m:dS P st T (st.ev s) (st.ev x) with
    | none=>simp[m] at h
    | some ur =>
      obtain⟨u,r⟩:=ur
      simp only[m,cQ] at h;subst h;obtain⟨v,w',oZ,X,S'⟩:=TZ (ty:=o.type) S (l d oL) m (S.ev s) (S.ev x)
      have Y:c.args=#[s,x]:=qg
      have D:c.argTypes=#[T,T]:=qg
      have R:=hK oZ _ w' S'
      simp_all [Oper.wp,execOp,resolve,invoke,builtin,Oper.upon]
   ·cases h
  ·cases h
 ·rename_i W;split at h
  ·rename_i x T N hT;cases m:tC P st T (st.ev x) with
   | none=>simp[m] at h
   | some u =>
     simp only[m,cR,cQ] at h;subst h;obtain⟨w',X,S'⟩:=C0 (ty:=o.type) S m (S.ev x)
     have Y:c.args=#[x]:=qg
     have D:c.argTypes=#[T]:=qg
     have R:=hK ρ (a.put o.dst (.tuple #[])) w' (by
      have:=S'.put o.dst l (x:=.cY []) (v:=.tuple #[]) (.cY [] #[] rfl qe)
      cases u with
      | none=>exact this
      | some p=>exact this)
     simp_all [Oper.wp,execOp,resolve,invoke,builtin,Oper.upon]
  ·cases h
 ·cases h
theorem kI.aBZ (S:kI F h0 w0 nt ρ st a w) (T d:Nat) (l:d<nt) {w':World} (hg:w.grownBy w' none) (e sz n:Nat) (cs:List AV) (xs:List Value) (v:Value) (p:kK w' w.heap.size e sz v n xs) (G:dN (ctx h0 w0 ρ st w) cs xs) :
 ∃N,kI F h0 w0 nt N ((tD st T d e sz n cs).apply st) (a.put (some d) v) w':=by
 unfold tD;split
 ·obtain⟨M,k⟩:=S.grow hg
  exact⟨ρ,M.put (some d) (fun t D=>by cases D;exact l) (Cd (fun b o hb J h2=>⟨h2,fun bB=>ni,fun s g e' he=>jI S he J⟩) p (G.le k))⟩
 grind [newRow,mV]
theorem Zn (S:kI F h0 w0 nt ρ st a w) (lM:mN P call) {e:rI} (h:dU P call o st=some e) (hd:∀d,o.dst=some d->d<nt)
 (hK:∀N a' w',kI F h0 w0 nt N (e.apply st) a' w'->K a' w'):o.wp P a w K Q:=by
 unfold dU at h;split at h
 ·rename_i T vL;cases r:o.dst with
  | none=>simp[r,cT] at h
  | some d =>
    cases hz:eC P T with
    | none=>simp[r,hz,cT] at h
    | some z =>
      simp only[r,hz,cT,cQ] at h;subst h;obtain⟨i,Y,hi,hzz,rfl,hz1⟩:=Bh hz
      obtain⟨N,S'⟩:=S.newVar d (hd d r) (Y.cells.toList.map .v) Y.cells T (dN.vs _ _ hz1)
      refine upon_value (v:=.pointer (some ⟨w.heap.size,0,none⟩)) (w':=w.alloc (.cells Y.cells T)) ?_ (by grind [mV])
      simp_all [execOp,Instr.alloc,newVar,newRow,Dw]
 ·rename_i T x vL;cases r:o.dst with
  | none=>simp[r,cT] at h
  | some d =>
    simp only[r,cT] at h;split at h
    ·rename_i oP;simp only[cQ] at h;subst h;obtain⟨N,S'⟩:=S.newVar d (hd d r) (st.ev x).cells (a.eval x).cells T ((S.ev x).cells oP)
     refine upon_value (v:=.pointer (some ⟨w.heap.size,0,none⟩)) (w':=w.alloc (.cells (a.eval x).cells T)) ?_ (by grind [mV])
     simp_all [execOp,Instr.box,newVar,newRow]
    ·cases h
 ·rename_i T n parts vL;cases r:o.dst with
  | none=>simp[r,cT] at h
  | some d =>
    cases hs:dD P T with
    | none=>simp[r,hs,cT] at h
    | some t =>
      obtain⟨e',sz,by_⟩:=t
      cases hz:eC P e' with
      | none=>simp[r,hs,hz,cT] at h
      | some z =>
        simp only[r,hs,hz,cT] at h;split at h
        ·rename_i G;obtain⟨c1,c2,c3⟩:=G
         cases W:mP (fun i=>some (i * sz,sz)) ((List.range n).flatMap fun _=>z.map .v) (parts.toList.map fun p=>(p.1,st.ev p.2)) with
         | none=>simp[W] at h
         | some cs =>
           simp only[W,cQ] at h;subst h;obtain⟨v,w',xs,X,hg,ho,D⟩:=Xg S hs hz c1 c2 c3 W
           obtain⟨N,S'⟩:=S.aBZ T d (hd d r) hg e' sz n cs xs v ho D
           refine upon_value (v:=v) (w':=w') ?_ qg
           simp_all [execOp]
        ·cases h
 ·rename_i T l c vL;cases r:o.dst with
  | none=>simp[r,cT] at h
  | some d =>
    cases hs:dD P T with
    | none=>simp[r,hs,cT] at h
    | some t =>
      obtain⟨e',sz,by_⟩:=t
      cases hz:eC P e' with
      | none=>simp[r,hs,hz,cT] at h
      | some z =>
        simp only[r,hs,hz,cT] at h;split at h
        ·rename_i n m hl G;split at h
         ·rename_i aE5;obtain⟨c1,rfl,c3,c4⟩:=aE5
          simp only[cQ] at h;subst h;obtain⟨k,rfl⟩:∃k:Nat,n=k:=⟨n.toNat,WF⟩
          obtain⟨v,w',xs,X,hg,ho,D⟩:=AQ (w:=w) (ctx h0 w0 ρ st w) hs hz (n:=k) (by
           omega) WF
          obtain⟨N,S'⟩:=S.aBZ T d (hd d r) hg e' sz k _ xs v ho D
          simp only[Int.toNat_natCast] at hK;refine upon_value (v:=v) (w':=w') ?_ qg
          have e1:=S.ev l
          rw[hl] at e1;have e1:=iM e1
          have M:=S.ev c
          rw[G] at M;have M:=iM M
          simp_all [execOp]
         ·cases h
        ·cases h
 ·rename_i T x y vL;cases hs:qW P st T (st.ev x) (st.ev y) with
  | none=>simp[hs] at h
  | some u =>
    obtain⟨s,g,e'⟩:=u
    simp only[hs,cR,cQ] at h;subst h;obtain⟨w',X,S'⟩:=B5 S hs (S.ev x) (S.ev y)
    have R:=hK ρ _ w' (S'.put o.dst hd (.v undef))
    unfold Oper.wp;simp only[execOp,vL];rw[iF X];exact R
 ·rename_i T vL;cases r:o.dst with
  | none=>simp[r,cT] at h
  | some d =>
    simp only[r,cT,cQ] at h;subst h;obtain⟨S',k,qE⟩:=S.new (World.grownBy_alloc w (.map #[] 0) none) d (.map []) (.map (some w.heap.size)) rfl (fun b hb=>by simp[cW] at hb;omega)
     (fun C k _=>⟨w.heap.size,#[],0,rfl,S.ext.size,heap_alloc_new w _,trivial⟩)
    have A:st.aJ d<(ctx h0 w0 (sD ρ d (st.aJ d) (.map (some w.heap.size))) (st.new d (.map [])) (w.alloc (.map #[] 0))).aJ d:=by simp[ctx,St.new]
    have lP:(ctx h0 w0 (sD ρ d (st.aJ d) (.map (some w.heap.size))) (st.new d (.map [])) (w.alloc (.map #[] 0))).ρ d (st.aJ d)=.map (some w.heap.size):=qE
    have:=cD.mp (C:=ctx h0 w0 (sD ρ d (st.aJ d) (.map (some w.heap.size))) (st.new d (.map [])) (w.alloc (.map #[] 0))) d (st.aJ d) A (by rw[lP];rfl)
    rw[lP] at this;have hS:=S'.put (some d) (fun t ht=>qg) this
    refine upon_value (v:=.map (some w.heap.size)) (w':=w.alloc (.map #[] 0)) ?_ (by grind [mV])
    simp only[execOp,vL,Option.map_none];rfl
 ·rename_i T m x y vL;cases hs:qD P st T (st.ev m) (st.ev x) (st.ev y) with
  | none=>simp[hs] at h
  | some u =>
    obtain⟨s,g,e'⟩:=u
    simp only[hs,cR,cQ] at h;subst h;obtain⟨w',X,S'⟩:=TO S hs (S.ev m) (S.ev x) (S.ev y)
    have R:=hK ρ _ w' (S'.put o.dst hd (.v undef))
    unfold Oper.wp;simp only[execOp,vL];rw[iF X];exact R
 ·grind [LR]
 ·cases hv:jG P st o.op with
  | none=>simp[hv] at h
  | some x =>
    simp only[hv,cR,cQ] at h;subst h;obtain⟨v,X,J⟩:=A8 S hv
    exact upon_value X (hK ρ _ w (S.put o.dst hd J))
end
end Go.Ab
end
section
namespace Go.Ab
open Classical
variable {aJ:Nat->Nat} {s g T:Nat} {o:Oper} {cs args:List AV} {x:AV} {lo hi:Option Operand} {dst:Option Nat} {parts:List (Nat × Operand)}
def lZ (aJ:Nat->Nat) (x:AV):Prop:=∃(C:Ctx) (v:Value),C.aJ=aJ/\cD C x v
theorem lZ.ptr {aJ:Nat->Nat} {s g o:Nat} (h:lZ aJ (.ptr s g o)):g<aJ s:=by
 obtain⟨C,v,rfl,h⟩:=h
 cases h<;>grind
theorem lZ.own {aJ:Nat->Nat} {s g:Nat} (h:lZ aJ (.own s g)):g<aJ s:=by
 obtain⟨C,v,rfl,h⟩:=h
 cases h<;>grind
theorem lZ.vw {aJ:Nat->Nat} {s g o n:Nat} (h:lZ aJ (.vw s g o n)):g<aJ s:=by
 obtain⟨C,v,rfl,h⟩:=h
 cases h<;>grind
theorem lZ.mp {aJ:Nat->Nat} {s g:Nat} (h:lZ aJ (.mp s g)):g<aJ s:=by
 obtain⟨C,v,rfl,h⟩:=h
 cases h<;>grind
theorem lZ.agg {aJ:Nat->Nat} {cs:List AV} (h:lZ aJ (.agg cs)):∀c∈cs,lZ aJ c:=by
 obtain⟨C,v,rfl,h⟩:=h
 cases h with
 | agg cs a hl X _ =>
   intro c G;obtain⟨i,hi,rfl⟩:=getElem_of_mem G
   exact⟨C,a[i],rfl,X i _ _ zq qe⟩
theorem lZ.rL {aJ:Nat->Nat} {f:Nat} {cs:List AV} (h:lZ aJ (.rL f cs)):∀c∈cs,lZ aJ c:=by
 obtain⟨C,v,rfl,h⟩:=h
 cases h with
 | rL f cs a hl X =>
   intro c G;obtain⟨i,hi,rfl⟩:=getElem_of_mem G
   exact⟨C,a[i]' WF,rfl,X i _ _ zq qe⟩
section
variable {P:Program} {call:Nat->List AV->Option AV} {st st':St}
def qZ (st st':St):Prop:=∀s g,g<st.aJ s->st'.heap s g=st.heap s g
theorem UA (N:lZ st.aJ x) (u:qZ st st'):rM st' x=rM st x:=by
 cases x<;>simp only[rM]
 rw[u _ _ N.ptr]
theorem uG (N:lZ st.aJ x) (u:qZ st st'):bA st' x=bA st x:=by
 cases x
 case own=>simp only[bA,u _ _ N.own]
 case vw=>simp only[bA,u _ _ N.vw]
 case v y =>
  cases y
  case slice p n c=>cases p<;>cases n<;>cases c<;>rfl
  all_goals rfl
 all_goals rfl
theorem Xk {i:AV} (N:lZ st.aJ x) (u:qZ st st'):bK P st' T x i=bK P st T x i:=by
 unfold bK;cases x<;>try rfl
 simp only[u _ _ N.own]
theorem HF (N:∀s g,((∃o,x=.ptr s g o)\/x=.own s g\/∃o n,x=.vw s g o n)->st'.heap s g=st.heap s g) (hl:∀p,lo=some p->st'.ev p=st.ev p) (Nq:∀p,hi=some p->st'.ev p=st.ev p):dW P st' T x lo hi=dW P st T x lo hi:=by
 unfold dW;cases dD P T with
 | none =>
   simp only
   cases gW P T with
   | none=>rfl
   | some na =>
     cases x<;>try rfl
     rename_i s g o;cases lo<;>cases hi<;>try rfl
     simp_all
 | some t =>
   simp only
   cases x<;>try rfl
   case v y =>
    grind
   case sl n cs =>
    grind
   case own s g =>
    grind
   case vw s g o n =>
    cases o with
    | succ o=>rfl
    | zero =>
      simp only[N s g (.inr (.inr ⟨_,_,rfl⟩))];grind
theorem UB (N:lZ st.aJ x) (u:qZ st st') (W:∀p,lo=some p->st'.ev p=st.ev p) (M:∀p,hi=some p->st'.ev p=st.ev p):dW P st' T x lo hi=dW P st T x lo hi :=
 HF (fun s g h=>by
  rcases h with ⟨o,rfl⟩|rfl|⟨o,n,rfl⟩
  ·exact u _ _ N.ptr
  ·exact u _ _ N.own
  ·exact u _ _ N.vw) W M
def LS (st:St):Prop:=∀s g cs,st.heap s g=some (.cells cs)->∀c∈cs,lZ st.aJ c
theorem C1 (N:lZ st.aJ x) (u:qZ st st'):sS st' x=sS st x:=by
 unfold sS;cases x<;>try rfl
 ·simp only[u _ _ N.own]
 ·simp only[u _ _ N.vw]
theorem C2 (hp:LS st) (N:lZ st.aJ x) (u:qZ st st'):cO st' x=cO st x:=by
 unfold cO;cases x<;>try rfl
 ·rename_i s g o;simp only[u _ _ N.ptr];cases he:st.heap s g with
  | none=>rfl
  | some e =>
    cases e with
    | cells cs =>
      have:cs.map (sS st')=cs.map (sS st):=map_congr_left fun c G=>C1 (hp s g cs he c G) u
      simp only[this]
    | _=>rfl
 ·simp only[u _ _ N.own]
 ·simp only[u _ _ N.vw]
theorem HG (hp:LS st) (hx:lZ st.aJ x) (hh:qZ st st'):eE st' x=eE st x:=by
 unfold eE;grind [C2,map_congr_left,lZ.agg,lZ.rL]
theorem UC {y:AV} (N:lZ st.aJ x) (u:qZ st st'):qW P st' T x y=qW P st T x y:=by
 unfold qW;cases x<;>try rfl
 simp only[u _ _ N.ptr]
theorem LU {s:AV} (hs:lZ st.aJ s) (N:lZ st.aJ x) (u:qZ st st'):dS P st' T s x=dS P st T s x:=by
 unfold dS;simp only[uG N u];cases s
 case own=>simp only[u _ _ hs.own]
 case v y =>
  cases y
  case slice p n c=>cases p<;>cases n<;>cases c<;>rfl
  all_goals rfl
 all_goals rfl
theorem LV {s:AV} (hs:lZ st.aJ s) (N:lZ st.aJ x) (u:qZ st st'):lH P st' T s x=lH P st T s x:=by
 unfold lH;rw[uG N u];cases dD P T with
 | none=>rfl
 | some t=>cases bA st x with
   | none=>rfl
   | some mn =>
     cases s<;>try rfl
     case vw s g o n =>
      cases o with
      | zero=>simp only[u _ _ hs.vw]
      | succ o=>rfl
theorem UD (N:lZ st.aJ x) (u:qZ st st'):tC P st' T x=tC P st T x:=by
 unfold tC;cases dD P T with
 | none=>rfl
 | some t =>
   cases x<;>try rfl
   case vw s g o n=>simp only[u _ _ N.vw]
   all_goals grind
theorem Zo {hi D:Operand} (hx:∀s g,x=.own s g->st'.heap s g=st.heap s g) (W:∀p,lo=some p->st'.ev p=st.ev p) (J:st'.ev hi=st.ev hi) (h2:st'.ev D=st.ev D):tX P st' T x lo hi D=tX P st T x lo hi D:=by
 unfold tX;rw[J,h2];cases dD P T with
 | none=>rfl
 | some t =>
   simp only
   cases lo with
   | none =>
     simp only
     cases x<;>try rfl
     case own s g=>grind
     case v y =>
      cases y<;>try rfl
      rename_i p n c;cases p<;>cases n<;>cases c<;>rfl
   | some l =>
     simp only[W l rfl];cases x<;>try rfl
     case own s g=>grind
     case v y =>
      cases y<;>try rfl
      rename_i p n c;cases p<;>cases n<;>cases c<;>rfl
theorem C3 {m:AV} {ok:Bool} (hm:lZ st.aJ m) (u:qZ st st'):Io P st' T m x ok=Io P st T m x ok:=by
 unfold Io;cases m<;>try rfl
 simp only[u _ _ hm.mp]
theorem LW {m y:AV} (hm:lZ st.aJ m) (u:qZ st st'):qD P st' T m x y=qD P st T m x y:=by
 unfold qD;cases m<;>try rfl
 simp only[u _ _ hm.mp]
theorem UE {r:AV} (hc:∀d,dst=some d->st'.aJ d=st.aJ d):jH r st' dst=jH r st dst:=by
 unfold jH;grind
theorem Ia (hp:LS st) (hx:∀x∈args,lZ st.aJ x) (hh:qZ st st') (hc:∀d,dst=some d->st'.aJ d=st.aJ d):aO call g args st' dst=aO call g args st dst:=by
 grind [aO,map_congr_left,HG,UE]
theorem UF (hp:LS st) (N:∀x∈args,lZ st.aJ x) (u:qZ st st') (G:∀d,dst=some d->st'.aJ d=st.aJ d):kU call g args st' dst=kU call g args st dst:=by
 unfold kU;split
 ·rename_i s k rest;rw[u _ _ (N _ (mem_cons_self ..)).own];grind
 ·rw[Ia hp N u G]
theorem LX (hp:LS st) (N:∀x∈args,lZ st.aJ x) (u:qZ st st') (G:∀d,dst=some d->st'.aJ d=st.aJ d):eH call g args st' dst=eH call g args st dst:=by
 have J:=Ia (call:=call) (g:=g) hp N u G
 have:args.map (eE st')=args.map (eE st):=map_congr_left fun x R=>HG hp (N x R) u
 unfold eH;rw[this,J];have h2:∀r s k,Dv r st' dst s k=Dv r st dst s k:=fun r s k=>by
  unfold Dv jH;grind
 simp only[h2]
theorem Ui (h:∀p∈parts,st'.ev p.2=st.ev p.2):(parts.map fun p=>(p.1,st'.ev p.2))=parts.map fun p=>(p.1,st.ev p.2) :=
 map_congr_left fun p hp=>by rw[h p hp]
theorem CM (h:∀p∈parts,st'.ev p.2=st.ev p.2):(parts.all fun p=>(st'.ev p.2).lL)=parts.all fun p=>(st.ev p.2).lL:=by
 grind
theorem aDC {G:List AV} (h:XM x=some (g,G)) (hx:lZ aJ x):∀c∈G,lZ aJ c:=by
 unfold XM at h;grind [lZ.rL]
variable [Ext]
theorem LY (hp:LS st) {c:Call} (he:∀p∈c.operands,st'.ev p=st.ev p) (hi:∀p∈c.operands,lZ st.aJ (st.ev p)) (hh:qZ st st') (hc:∀d,dst=some d->st'.aJ d=st.aJ d) :
 iZ P call c dst st'=iZ P call c dst st:=by
 have Uh:∀p∈c.args.toList,p∈c.operands:=fun p hp=>by grind [Call.operands]
 unfold iZ;split
 ·rename_i f W;have hfo:f∈c.operands:=by simp[Call.operands,W]
  have hm:c.args.toList.map st'.ev=c.args.toList.map st.ev:=map_congr_left fun p hp=>he p (Uh p hp)
  have hia:∀x∈c.args.toList.map st.ev,lZ st.aJ x:=fun x hx=>by
   grind
  unfold pE;rw[hm];split
  all_goals grind [UF,LX,Ia,aDC]
 ·grind [uG]
 ·grind
 ·grind
 ·cases dst with
  | none=>rfl
  | some d =>
  simp only[cT];grind [QO,uG,LU,LV]
 all_goals grind [UD]
theorem C4 (hp:LS st) (he:∀p∈o.op.operands,st'.ev p=st.ev p) (hi:∀p∈o.op.operands,lZ st.aJ (st.ev p)) (u:qZ st st') (G:∀d,o.dst=some d->st'.aJ d=st.aJ d) :
 dU P call o st'=dU P call o st:=by
 obtain⟨dst,op,type,pos,after,guard⟩:=o
 cases op<;>simp only[dU,jG,Op.operands] at *
 case call c=>exact LY hp he hi u G
 case alloc T=>cases dst<;>grind [cT]
 case box T x=>cases dst<;>grind [cT]
 case buildSlice T n parts =>
  have R:∀p∈parts.toList,st'.ev p.2=st.ev p.2:=fun p hp=>he p.2 qg
  rw[Ui R,CM R];cases dst<;>simp_all [cT,tD]
 case makeSlice T l c =>
  rw[he l qe,he c qe]
  cases dst with
  | none=>rfl
  | some d=>simp only[cT,tD,G d rfl]
 case makeMap T r =>
  cases r with
  | none=>cases dst<;>grind [cT]
  | some r=>rfl
 case mapUpdate T m x y=>rw[he m qe,he x qe,he y qe,LW (hi m qe) u]
 case lookup T m x ok=>rw[he m qe,he x qe,C3 (hi m qe) u]
 case store T x y=>rw[he x qe,he y qe,UC (hi x qe) u]
 case move x=>rw[he x qe]
 case assign x=>rw[he x qe]
 case pick c x y=>grind
 case binOp op T x y yT=>grind
 case unOp op T x=>rw[he x qe]
 case convert s d x=>rw[he x qe]
 case nilCheck x=>rw[he x qe]
 case field T x f=>rw[he x qe]
 case fieldAddr T x f=>rw[he x qe]
 case indexAddr T x i=>rw[he x qe,he i qe,Xk (hi x qe) u]
 case load T x=>rw[he x qe,UA (hi x qe) u]
 case extract t i=>rw[he t qe]
 case build T parts =>
  have R:∀p∈parts.toList,st'.ev p.2=st.ev p.2:=fun p hp=>he p.2 qg
  unfold wU;rw[Ui R,CM R]
 case slice T x lo M D =>
  cases D with
  | some m =>
    cases M with
    | none=>rfl
    | some h =>
      simp only
      rw[he x qe,Zo (fun s g N=>by have:=hi x qe;rw[N] at this;exact u _ _ this.own) (fun p hp=>he p (by simp[hp])) (he h qe) (he m qe)]
  | none =>
    grind [UB]
 case makeFunc fn first captured =>
  cases fn<;>grind [map_congr_left]
theorem UG {ops:Array Oper} (J:nF ops o=0\/nF ops o=2) (he:∀p∈o.op.operands,st'.ev p=st.ev p) (G:∀d,o.dst=some d->st'.aJ d=st.aJ d) :
 dU P call o st'=dU P call o st:=by
 obtain⟨dst,op,type,pos,after,guard⟩:=o
 cases op<;>simp only[dU,jG,Op.operands,nF] at *
 case call c =>
  grind
 case alloc T=>cases dst<;>grind [cT]
 case box T x=>cases dst<;>grind [cT]
 case buildSlice T n parts =>
  have R:∀p∈parts.toList,st'.ev p.2=st.ev p.2:=fun p hp=>he p.2 qg
  rw[Ui R,CM R];cases dst<;>simp_all [cT,tD]
 case makeSlice T l c =>
  rw[he l qe,he c qe]
  cases dst with
  | none=>rfl
  | some d=>simp only[cT,tD,G d rfl]
 case makeMap T r =>
  cases r with
  | none=>cases dst<;>grind [cT]
  | some r=>rfl
 case mapUpdate T m x y=>simp at J
 case lookup T m x ok=>simp at J
 case store T x y=>simp at J
 case move x=>rw[he x qe]
 case assign x=>rw[he x qe]
 case pick c x y=>grind
 case binOp op T x y yT=>grind
 case unOp op T x=>rw[he x qe]
 case convert s d x=>rw[he x qe]
 case nilCheck x=>rw[he x qe]
 case field T x f=>rw[he x qe]
 case fieldAddr T x f=>rw[he x qe]
 case indexAddr T x i=>simp at J
 case load T x=>simp at J
 case extract t i=>rw[he t qe]
 case build T parts =>
  have R:∀p∈parts.toList,st'.ev p.2=st.ev p.2:=fun p hp=>he p.2 qg
  unfold wU;rw[Ui R,CM R]
 case slice T x lo Nq mx=>simp at J
 case makeFunc fn first captured =>
  cases fn<;>grind [map_congr_left]
end
end Go.Ab
end
section
namespace Go.Ab
open Classical
variable {dst:Option Nat} {e ex:rI} {g T s:Nat} {args:List AV} {o y:Oper} {p x:AV} {s1 s2:St} {D A:List Nat}
section
variable {P:Program} {call:Nat->List AV->Option AV} {st st':St} {ops:Array Oper}
theorem Ib {r:AV} (h:jH r st dst=some e):e.dst=dst/\e.dE=none/\∀d x,e.new=some (d,x)->dst=some d:=by
 unfold jH at h;grind
theorem Ao (h:aO call g args st dst=some e):e.dst=dst/\e.dE=none/\∀d x,e.new=some (d,x)->dst=some d:=by
 unfold aO at h;split at h
 ·cases G:call g args<;>grind [cT,Ib]
 ·split at h
  ·rename_i xs _;cases G:call g xs<;>grind [cT,Ib]
  ·cases h
theorem Uj (h:kU call g args st dst=some e):e.dst=dst/\(∀d x,e.new=some (d,x)->dst=some d)/\∀s k x,e.dE=some (s,k,x)->args.head? = some (.own s k):=by
 unfold kU at h;grind [Ao]
theorem LZ (h:eH call g args st dst=some e):e.dst=dst/\(∀d x,e.new=some (d,x)->dst=some d)/\∀s k x,e.dE=some (s,k,x)->∃y∈args,y=.own s k\/∃cs,y=.agg cs/\.own s k∈cs:=by
 unfold eH at h;split at h
 ·rename_i s k R;split at h
  ·split at h
   ·rename_i xs _;cases G:call g xs with
    | none=>simp[G,cT] at h
    | some r =>
      simp only[G,cT] at h;have hu:e.dE=some (s,k,none)/\e.dst=dst/\∀d x,e.new=some (d,x)->dst=some d:=by
       grind [PX,Ib]
      ·refine⟨hu.2.1,hu.2.2,fun s' k' x h=>?_⟩
       rw[hu.1] at h;simp only[cQ,Prod.mk.injEq] at h;obtain⟨rfl,rfl,_⟩:=h
       have hm:(s,k)∈args.flatMap jB:=by rw[R];simp
       obtain⟨y,Y,hyk⟩:=mem_flatMap.1 hm
       refine⟨y,Y, ?_⟩
       have key:∀c,(s,k)∈gP c->c=.own s k:=fun c G=>by
        cases c<;>simp[gP] at G
        grind
       cases y<;>grind [jB]
   ·cases h
  ·cases h
 grind [Ao]
theorem Gh (e:rI) (t:Nat):(e.apply st).env t=if e.dst=some t then e.val else st.env t:=by
 have h2:∀(s1:St),(s1.put e.dst e.val).env t=if e.dst=some t then e.val else s1.env t:=fun s1=>by
  cases hd:e.dst<;>grind [St.put]
 unfold rI.apply;rw[h2];cases e.dE<;>cases e.new<;>rfl
theorem vF (e:rI) (s:Nat):(e.apply st).aJ s=match e.new with
 | some (d,es)=>if s=d then st.aJ d+es.length else st.aJ s
 | none=>st.aJ s:=by
 unfold rI.apply;rw[aA1];cases e.dE<;>cases e.new<;>rfl
theorem uQ (e:rI) (s g:Nat):(e.apply st).heap s g=match e.new with
 | some (d,es)=>if s=d/\st.aJ d<=g/\g-st.aJ d<es.length then es[g-st.aJ d]? else (match e.dE with
   | some (D,g0,y)=>if s=D/\g=g0 then y else st.heap s g
   | none=>st.heap s g)
 | none=>(match e.dE with
   | some (D,g0,y)=>if s=D/\g=g0 then y else st.heap s g
   | none=>st.heap s g):=by
 unfold rI.apply;rw[DA];cases e.dE<;>cases e.new<;>rfl
theorem aHx (h:∀j want d,o.guard=some (j,want)->(ops[j]?).bind (·.dst)=some d->st'.env d=st.env d):gv ops st' o.guard=gv ops st o.guard:=by
 unfold gv;grind
theorem aHy {a b:St} (h1:a.env=b.env) (h2:a.heap=b.heap) (h3:a.aJ=b.aJ):a=b:=by
 cases a;cases b;simp_all
theorem HH {u:Nat × Nat × mH × Nat} (h:lH P st T p x=some u):∃n,p=.vw u.1 u.2.1 0 n:=by
 unfold lH at h;grind
theorem aDD {u:Nat × Nat × mH} (h:tC P st T p=some (some u)):∃o n,p=.vw u.1 u.2.1 o n:=by
 unfold tC at h;grind
variable [Ext]
theorem Uk {d e sz n:Nat} {cs:List AV} {R:Nat->Nat->Option mH->Prop}:(tD st T d e sz n cs).dst=some d/\(∀G x,(tD st T d e sz n cs).new=some (G,x)->some d=some G)/\∀s g x,(tD st T d e sz n cs).dE=some (s,g,x)->R s g x:=by
 grind [tD]
theorem C5 (h:dU P call o st=some e) :
 e.dst=o.dst/\(∀d x,e.new=some (d,x)->o.dst=some d)/\(∀s g x,e.dE=some (s,g,x)->nF ops o=3/\∃p∈o.op.operands,(∃off,st.ev p=.ptr s g off)\/st.ev p=.own s g\/st.ev p=.mp s g\/(∃cs,st.ev p=.agg cs/\.own s g∈cs)\/∃o n,st.ev p=.vw s g o n):=by
 obtain⟨dst,op,type,pos,after,guard⟩:=o
 have val:∀x:Option AV,(x.map fun y=>({ dst:=dst,val:=y }:rI))=some e->e.dst=dst/\(∀d x,e.new=some (d,x)->dst=some d)/\(∀s g x,e.dE≠some (s,g,x)):=fun x h=>by
  cases x<;>grind
 cases op
 case call c =>
  simp only[dU] at h;unfold iZ at h;split at h
  ·rename_i f G;unfold pE at h;split at h
   ·rename_i g;split at h
    ·rename_i hmv;obtain⟨J,h2,S⟩:=Uj h
     refine⟨J,h2,fun s k x hu=>?_⟩
     have hh:=S s k x hu
     obtain⟨callee,args,A⟩:=c
     simp only at G hh
     subst G;cases hl:args.toList with
     | nil=>grind
     | cons p ps =>
       rw[hl] at hh;simp only[map_cons,head?_cons,cQ] at hh;refine⟨?_,p, ?_,.inr (.inl hh)⟩
       ·grind [nF,St.ev]
       simp only[Op.operands,Call.operands];simp
       right
       rw[<- Array.mem_toList_iff,hl];simp
    ·split at h
     ·rename_i heat;obtain⟨J,h2,S⟩:=LZ h
      refine⟨J,h2,fun s k x hu=>?_⟩
      obtain⟨y,hy,hyo⟩:=S s k x hu
      obtain⟨callee,args,A⟩:=c
      grind [nF,Op.operands,Call.operands]
     grind [Ao]
   grind [Ao]
  ·grind
  ·grind
  ·grind
  ·rename_i G;cases dst with
   | none=>simp[cT] at h
   | some d =>
     simp only[cT] at h;split at h
     ·rename_i s x T T' N hT
      split at h
      ·split at h
       ·cases Aw:lH P st T (st.ev s) (st.ev x) with
        | none=>simp[Aw] at h
        | some u =>
        simp only[Aw,cR,cQ] at h;subst h;refine⟨rfl,nofun,fun D g' x' hu=>?_⟩
        simp only[cQ,Prod.mk.injEq] at hu;obtain⟨rfl,rfl,rfl⟩:=hu
        obtain⟨M,C⟩:=HH Aw
        refine⟨?_,s, ?_,.inr (.inr (.inr (.inr ⟨0,M,C⟩)))⟩
        ·obtain⟨callee,args,A⟩:=c
         grind [nF,St.ev]
        ·simp only[Op.operands,Call.operands,G];simp
         rw[<- Array.mem_toList_iff,N];simp
       split at h
       ·grind
       cases Aw:dS P st T (st.ev s) (st.ev x) with
       | none=>simp[Aw] at h
       | some X =>
         obtain⟨u,r⟩:=X
         simp only[Aw,cQ] at h;subst h;refine⟨rfl,fun d x h=>by simp at h;rw[h.1],fun D g' x' hu=>?_⟩
         simp only[Option.map_eq_some_iff] at hu;obtain⟨⟨s2,g2⟩,Y,hu2⟩:=hu
         simp only[Prod.mk.injEq] at hu2;obtain⟨rfl,rfl,rfl⟩:=hu2
         subst Y;have C:st.ev s=.own s2 g2:=by
          unfold dS at Aw;grind
         refine⟨?_,s, ?_,.inr (.inl C)⟩
         ·obtain⟨callee,args,A⟩:=c
          grind [nF,St.ev]
         ·simp only[Op.operands,Call.operands,G];simp
          rw[<- Array.mem_toList_iff,N];simp
      ·cases h
     ·cases h
  ·rename_i G;split at h
   ·rename_i x T N hT;cases Aw:tC P st T (st.ev x) with
    | none=>simp[Aw] at h
    | some u =>
      simp only[Aw,cR,cQ] at h;subst h;refine⟨rfl,nofun,fun D g' x' hu=>?_⟩
      simp only[Option.map_eq_some_iff,Prod.mk.injEq] at hu;obtain⟨p,rfl,rfl,rfl,_⟩:=hu
      obtain⟨o,n,C⟩:=aDD Aw
      refine⟨?_,x, ?_,.inr (.inr (.inr (.inr ⟨o,n,C⟩)))⟩
      ·obtain⟨callee,args,A⟩:=c
       simp only at G
       subst G;rfl
      ·simp only[Op.operands,Call.operands,G];simp
       rw[<- Array.mem_toList_iff,N];simp
   ·cases h
  ·cases h
 case store T x y =>
  simp only[dU] at h;cases hs:qW P st T (st.ev x) (st.ev y) with
  | none=>simp[hs] at h
  | some u =>
    obtain⟨s,g,e'⟩:=u
    simp only[hs,cR,cQ] at h;subst h;refine⟨rfl,fun d x h=>by simp at h,fun D g' x' hu=>⟨rfl,x,vu,.inl ?_⟩⟩
    simp only[cQ,Prod.mk.injEq] at hu;obtain⟨rfl,rfl,_⟩:=hu
    unfold qW at hs;grind
 case alloc T =>
  simp only[dU] at h;cases dst<;>grind [cT,eC]
 case box T x =>
  simp only[dU] at h;cases dst<;>grind [cT]
 case buildSlice T n parts =>
  simp only[dU] at h;cases dst with
  | none=>simp[cT] at h
  | some d=>cases hs:dD P T with
    | none=>simp[hs,cT] at h
    | some t=>cases R:eC P t.1 with
      | none=>simp[hs,R,cT] at h
      | some z =>
        simp only[hs,R,cT] at h;split at h
        ·cases W:mP (fun i=>some (i * t.2.1,t.2.1)) ((List.range n).flatMap fun _=>z.map .v) (parts.toList.map fun p=>(p.1,st.ev p.2)) with
         | none=>simp[W] at h
         | some cs=>simp only[W,cQ] at h;subst h;exact Uk
        ·cases h
 case makeSlice T l c =>
  simp only[dU] at h;cases dst with
  | none=>simp[cT] at h
  | some d=>cases hs:dD P T with
    | none=>simp[hs,cT] at h
    | some t=>cases R:eC P t.1 with
      | none=>simp[hs,R,cT] at h
      | some z =>
        simp only[hs,R,cT] at h;split at h
        ·split at h
         ·simp only[cQ] at h;subst h;exact Uk
         ·cases h
        ·cases h
 case makeMap T r =>
  cases r with
  | none =>
    simp only[dU] at h;cases dst<;>grind [cT]
  | some r =>
    grind [dU]
 case mapUpdate T m x y =>
  simp only[dU] at h;cases hs:qD P st T (st.ev m) (st.ev x) (st.ev y) with
  | none=>simp[hs] at h
  | some u =>
    obtain⟨s,g,e'⟩:=u
    simp only[hs,cR,cQ] at h;subst h;refine⟨rfl,fun d x h=>by simp at h,fun D g' x' hu=>⟨rfl,m,vu,.inr (.inr (.inl ?_))⟩⟩
    simp only[cQ,Prod.mk.injEq] at hu;obtain⟨rfl,rfl,_⟩:=hu
    unfold qD at hs;grind
 all_goals
  grind [dU]
def tA (P:Program) (call:Nat->List AV->Option AV) (ops:Array Oper) (o:Oper) (st:St):Option rI :=
 match gv ops st o.guard with
 | some b=>if b=true then dU P call o st else some { dst:=o.dst,val:=.v undef }
 | none=>none
theorem Ic (o:Oper):cU P call ops o st=(tA P call ops o st).map fun e=>e.apply st:=by
 unfold cU tA;cases gv ops st o.guard with
 | none=>rfl
 | some b=>cases b<;>rfl
theorem qC (h:tA P call ops o st=some e) :
 e.dst=o.dst/\(∀d x,e.new=some (d,x)->o.dst=some d)/\(∀s g x,e.dE=some (s,g,x)->nF ops o=3/\∃p∈o.op.operands,(∃off,st.ev p=.ptr s g off)\/st.ev p=.own s g\/st.ev p=.mp s g\/(∃cs,st.ev p=.agg cs/\.own s g∈cs)\/∃o n,st.ev p=.vw s g o n):=by
 unfold tA at h;split at h
 ·split at h
  ·exact C5 h
  grind
 ·cases h
theorem Zp (hp:LS st) {x:Oper} (Aw:vP ops x y=true\/vP ops y x=true) (u:∀t,lZ st.aJ (st.env t)) (N:tA P call ops x st=some ex) :
 tA P call ops y (ex.apply st)=tA P call ops y st:=by
 obtain⟨sd,sn,su⟩:=qC N
 have hlook:(∀d,x.dst=some d->d ∉ y.looksAt ops)/\(∀d,x.dst=some d->y.dst≠some d):=by
  grind [vP,Oper.apart_spec]
 have C:∀t,t∈y.looksAt ops->(ex.apply st).env t=st.env t:=fun t ht=>by
  grind [Gh]
 have X:∀p∈y.op.operands,(ex.apply st).ev p=st.ev p:=fun p hp=>by
  cases p with
  | tmp t=>exact C t vf
  | _=>rfl
 have R:gv ops (ex.apply st) y.guard=gv ops st y.guard:=aHx fun j want d hg l=>C d (by
  grind [Oper.looksAt])
 have G:∀d,y.dst=some d->(ex.apply st).aJ d=st.aJ d:=fun d l=>by
  grind [vF]
 have D:∀p∈y.op.operands,lZ st.aJ (st.ev p):=fun p hp=>by
  cases p with
  | tmp t=>exact u t
  | const v=>exact⟨⟨fun _ _=>False,fun _ _=>undef,st.aJ⟩,v,rfl,.v v⟩
  | global g=>exact⟨⟨fun _ _=>False,fun _ _=>undef,st.aJ⟩,_,rfl,.v _⟩
  | func f=>exact⟨⟨fun _ _=>False,fun _ _=>undef,st.aJ⟩,_,rfl,.v _⟩
 have A:dU P call y (ex.apply st)=dU P call y st:=by
  by_cases h3:nF ops x=3
  ·refine UG (ops:=ops) ?_ X G
   have hle:nF ops y=0\/nF ops y=1\/nF ops y=2\/nF ops y=3\/nF ops y=4:=by
    unfold nF;grind
   grind [vP]
  ·have hnu:ex.dE=none:=by
    cases hu:ex.dE<;>grind
   refine C4 hp X D (fun s g bB=>?_) G
   grind [uQ]
 unfold tA;rw[R,A]
theorem UH {z:Option mH} (u:∀t,lZ st.aJ (st.env t)) (h:tA P call ops o st=some e) (hu:e.dE=some (s,g,z)):g<st.aJ s:=by
 obtain⟨_,_,su⟩:=qC h
 obtain⟨_,p,hp,C⟩:=su s g z hu
 have D:lZ st.aJ (st.ev p):=by
  cases p with
  | tmp t=>exact u t
  | const v=>exact⟨⟨fun _ _=>False,fun _ _=>undef,st.aJ⟩,v,rfl,.v v⟩
  | global g=>exact⟨⟨fun _ _=>False,fun _ _=>undef,st.aJ⟩,_,rfl,.v _⟩
  | func f=>exact⟨⟨fun _ _=>False,fun _ _=>undef,st.aJ⟩,_,rfl,.v _⟩
 rcases C with ⟨off,C⟩|C|C|⟨cs,C,hm⟩|⟨o,n,C⟩
 ·rw[C] at D;exact D.ptr
 ·rw[C] at D;exact D.own
 ·rw[C] at D;exact D.mp
 ·rw[C] at D;exact (D.agg _ hm).own
 ·rw[C] at D;exact D.vw
theorem aLf (hp:LS st) {x:Oper} (m:vP ops x y=true) (u:∀t,lZ st.aJ (st.env t)) (N:cU P call ops x st=some s1) (Y:cU P call ops y s1=some s2) :
 ∃S,cU P call ops y st=some S/\cU P call ops x S=some s2:=by
 rw[Ic] at N Y;cases hex:tA P call ops x st with
 | none=>simp[hex] at N
 | some ex =>
   simp only[hex,cR,cQ] at N;subst N;rw[Zp hp (.inl m) u hex] at Y;cases C:tA P call ops y st with
   | none=>simp[C] at Y
   | some X =>
     simp only[C,cR,cQ] at Y;subst Y;refine⟨X.apply st,by rw[Ic,C];rfl, ?_⟩
     rw[Ic,Zp hp (.inr m) u C,hex];simp only[cR,cQ];obtain⟨dx,nx,ux⟩:=qC hex
     obtain⟨dy,ny,uy⟩:=qC C
     have hd:∀d,x.dst=some d->y.dst≠some d:=by
      grind [vP,Oper.apart_spec]
     have Hr:¬(ex.dE≠none/\X.dE≠none):=by
      rintro⟨J,h2⟩
      cases hu:ex.dE with
      | none=>exact J hu
      | some a=>cases hv:X.dE<;>grind [vP]
     apply aHy
     ·grind [Gh]
     ·funext s g
      rw[uQ,uQ,uQ,uQ];have r:∀d z,X.new=some (d,z)->(ex.apply st).aJ d=st.aJ d:=fun d z M=>by
       grind [vF]
      have cy:∀d z,ex.new=some (d,z)->(X.apply st).aJ d=st.aJ d:=fun d z M=>by
       grind [vF]
      cases p:ex.new with
      | none =>
        cases R:X.new with
        | none =>
          grind
        | some b =>
          obtain⟨d,z⟩:=b
          simp only[r d z R];cases W:ex.dE with
          | none=>rfl
          | some a =>
            obtain⟨D,g0,e0⟩:=a
            have A:=UH u hex W
            grind
      | some a =>
        obtain⟨d,z⟩:=a
        cases R:X.new with
        | none =>
          simp only[cy d z p];cases l:X.dE with
          | none=>rfl
          | some a =>
            obtain⟨D,g0,e0⟩:=a
            have A:=UH u C l
            grind
        | some b =>
          obtain⟨G,z'⟩:=b
          simp only[cy d z p,r G z' R];have hdd:d≠G:=by
           grind
          cases W:ex.dE with
          | none =>
            cases l:X.dE with
            | none =>
              grind
            | some b =>
              obtain⟨D,g0,e0⟩:=b
              have A:=UH u C l
              grind
          | some a =>
            obtain⟨D,g0,e0⟩:=a
            have A:=UH u hex W
            grind
     grind [vF]
def Li (st st':St) (x:AV):Prop:=∀s g,keyOf x=some (some (s,g))->st'.heap s g=st.heap s g
theorem Y3 (h:Li st st' x):rM st' x=rM st x:=by
 cases x<;>simp only[rM]
 rw[h _ _ rfl]
theorem xW (h:Li st st' x):bA st' x=bA st x:=by
 cases x
 case own=>simp only[bA,h _ _ rfl]
 case vw=>simp only[bA,h _ _ rfl]
 case v y =>
  cases y
  case slice p n c=>cases p<;>cases n<;>cases c<;>rfl
  all_goals rfl
 all_goals rfl
theorem HI {i:AV} (h:Li st st' x):bK P st' T x i=bK P st T x i:=by
 unfold bK;cases x<;>try rfl
 simp only[h _ _ rfl]
theorem Y4 {y:AV} (h:Li st st' x):qW P st' T x y=qW P st T x y:=by
 unfold qW;cases x<;>try rfl
 simp only[h _ _ rfl]
theorem Y5 {lo hi:Option Operand} (N:Li st st' x) (W:∀p,lo=some p->st'.ev p=st.ev p) (M:∀p,hi=some p->st'.ev p=st.ev p):dW P st' T x lo hi=dW P st T x lo hi :=
 HF (fun s g h=>by
  rcases h with ⟨o,rfl⟩|rfl|⟨o,n,rfl⟩<;>exact N _ _ rfl) W M
theorem C6 {s:AV} (hs:Li st st' s) (N:Li st st' x):dS P st' T s x=dS P st T s x:=by
 unfold dS;rw[xW N];cases s
 case own=>simp only[hs _ _ rfl]
 case v y =>
  cases y
  case slice p n c=>cases p<;>cases n<;>cases c<;>rfl
  all_goals rfl
 all_goals rfl
theorem C7 {s:AV} (hs:Li st st' s) (N:Li st st' x):lH P st' T s x=lH P st T s x:=by
 unfold lH;rw[xW N];cases dD P T with
 | none=>rfl
 | some t=>cases bA st x with
   | none=>rfl
   | some mn =>
     cases s<;>try rfl
     case vw s g o n =>
      cases o with
      | zero=>simp only[hs _ _ rfl]
      | succ o=>rfl
theorem Y6 {r:AV} (hc:∀d,dst=some d->st'.aJ d=st.aJ d):jH r st' dst=jH r st dst:=by
 unfold jH;grind
theorem Y7 (N:Li st st' x) (hc:∀d,dst=some d->st'.aJ d=st.aJ d):kU call g (x :: args) st' dst=kU call g (x :: args) st dst:=by
 unfold kU;split
 ·rename_i s k rest heq;simp only[List.cons.injEq] at heq;obtain⟨rfl,rfl⟩:=heq
  rw[N _ _ rfl];grind
 grind [aO,Y6]
theorem MA (h:iK o=some D):o.guard=none:=by
 grind [iK]
theorem UI (Y:iK o=some D):tA P call ops o st=dU P call o st:=by
 unfold tA;rw[MA Y];rfl
inductive Cg:Op->List Nat->Prop
 | load (T a:Nat):Cg (.load T (.tmp a)) [a]
 | store (T a:Nat) (x:Operand):Cg (.store T (.tmp a) x) [a]
 | indexAddr (T a:Nat) (x:Operand):Cg (.indexAddr T (.tmp a) x) [a]
 | slice (T a:Nat) (lo hi mx:Option Operand):Cg (.slice T (.tmp a) lo hi mx) [a]
 | len (a:Nat) (args:Array Operand) (tT:Array Nat) (h:args.toList=[.tmp a]):Cg (.call ⟨.builtin .len,args,tT⟩) [a]
 | append (a b:Nat) (args:Array Operand) (tT:Array Nat) (h:args.toList=[.tmp a,.tmp b]):Cg (.call ⟨.builtin .append,args,tT⟩) [a,b]
 | mv (g a:Nat) (r:List Operand) (args:Array Operand) (tT:Array Nat) (h:args.toList=.tmp a :: r) (hg:Ext.mv g=true):Cg (.call ⟨.value (.func g),args,tT⟩) [a]
theorem Ul (h:iK o=some D):Cg o.op D:=by
 grind [iK,Cg.load,Cg.store,Cg.indexAddr,Cg.slice,Cg.len,Cg.append,Cg.mv]
theorem aDE {e':mH} (hs:qW P st T p x=some (s,g,e')):∃o,p=.ptr s g o:=by
 unfold qW at hs;grind
theorem Y8 {r:mH} (m:dS P st T p x=some (some (s,g),r)):p=.own s g:=by
 unfold dS at m;grind
theorem Xl (Y:iK o=some D) (h:tA P call ops o st=some e) :
 ∀s g z,e.dE=some (s,g,z)->∃a∈D,keyOf (st.env a)=some (some (s,g)):=by
 rw[UI Y] at h;have R:=Ul Y
 clear Y
 obtain⟨dst,op,type,pos,after,guard⟩:=o
 have val:∀(v:Option AV),(v.map fun x=>({ dst:=dst,val:=x }:rI))=some e->e.dE=none:=fun v hv=>by
  cases v<;>grind
 intro s g z hu;cases R
 case load T a=>grind [dU]
 case indexAddr T a x=>grind [dU]
 case slice T a lo hi mx=>grind [dU]
 case len a args A W =>
  grind [dU,iZ]
 case store T a x =>
  simp only[dU] at h;cases hs:qW P st T (st.ev (.tmp a)) (st.ev x) with
  | none=>simp[hs] at h
  | some u =>
    obtain⟨s',g',e'⟩:=u
    simp only[hs,cR,cQ] at h;subst h;simp only[cQ,Prod.mk.injEq] at hu;obtain⟨rfl,rfl,_⟩:=hu
    obtain⟨o1,G⟩:=aDE hs
    exact⟨a,qe,by rw[show st.env a=st.ev (.tmp a) from rfl,G];rfl⟩
 case append a b args A W =>
  simp only[dU,iZ,W] at h;cases dst with
  | none=>simp[cT] at h
  | some d =>
    simp only[cT] at h;split at h
    ·rename_i s0 x0 T T' heq _
     simp only[List.cons.injEq,and_true] at heq;obtain⟨rfl,rfl⟩:=heq
     split at h
     ·split at h
      ·cases m:lH P st T (st.ev (.tmp a)) (st.ev (.tmp b)) with
       | none=>simp[m] at h
       | some u =>
       simp only[m,cR,cQ] at h;subst h;simp only[cQ,Prod.mk.injEq] at hu;obtain⟨rfl,rfl,rfl⟩:=hu
       obtain⟨n0,C⟩:=HH m
       exact⟨a,qe,by rw[show st.env a=st.ev (.tmp a) from rfl,C];rfl⟩
      split at h
      ·grind
      cases m:dS P st T (st.ev (.tmp a)) (st.ev (.tmp b)) with
      | none=>simp[m] at h
      | some X =>
        obtain⟨u,r⟩:=X
        simp only[m,cQ] at h;subst h;cases u with
        | none=>cases hu
        | some p =>
          simp only[cR,cQ,Prod.mk.injEq] at hu;obtain⟨rfl,rfl,_⟩:=hu
          exact⟨a,qe,by rw[show st.env a=st.ev (.tmp a) from rfl,Y8 m];rfl⟩
     ·cases h
    ·cases h
 case mv g' a r args A W hg =>
  simp only[dU,iZ,pE] at h;rw[if_pos hg] at h;obtain⟨_,_,S⟩:=Uj h
  have:=S s g z hu
  rw[W] at this;simp only[map_cons,head?_cons,cQ,St.ev] at this;exact⟨a,qe,by rw[this];rfl⟩
theorem mem_congr (Y:iK o=some D) (X:∀p∈o.op.operands,st'.ev p=st.ev p) (u:∀a∈D,Li st st' (st.env a)) (G:∀d,o.dst=some d->st'.aJ d=st.aJ d) :
 tA P call ops o st'=tA P call ops o st:=by
 rw[UI Y,UI Y];have R:=Ul Y
 clear Y
 obtain⟨dst,op,type,pos,after,guard⟩:=o
 simp only at R X G
 cases R
 case load T a =>
  have J:st'.env a=st.env a:=X (.tmp a) vu
  grind [dU,jG,St.ev,Y3]
 case store T a x =>
  have J:st'.env a=st.env a:=X (.tmp a) vu
  have h2:=X x vu
  grind [St.ev,dU,Y4]
 case indexAddr T a x =>
  grind [Op.operands,St.ev,dU,jG,HI]
 case slice T a lo hi mx =>
  have J:st'.env a=st.env a:=X (.tmp a) vu
  have S:st'.ev (.tmp a)=st.ev (.tmp a):=J
  have W:∀p,lo=some p->st'.ev p=st.ev p:=fun p hp=>X p QbL
  have M:∀p,hi=some p->st'.ev p=st.ev p:=fun p hp=>X p QbL
  have hm:∀p,mx=some p->st'.ev p=st.ev p:=fun p hp=>X p QbL
  have hS:=Y5 (P:=P) (T:=T) (u a qe) W M
  cases mx with
  | none =>
    grind [dU,jG,St.ev]
  | some m =>
    cases hi with
    | none=>rfl
    | some h =>
      simp only[dU,jG,S];rw[Zo (fun s g N=>u a qe s g (by rw[show st.env a=st.ev (.tmp a) from rfl,N];rfl)) W (M h rfl) (hm m rfl)]
 case len a args A W =>
  have J:st'.env a=st.env a:=X (.tmp a) zj
  grind [St.ev,xW,dU,iZ]
 case append a b args A W =>
  have J:st'.ev (.tmp a)=st.ev (.tmp a):=X (.tmp a) zj
  have h2:st'.ev (.tmp b)=st.ev (.tmp b):=X (.tmp b) zj
  have hV:∀T,lH P st' T (st.ev (.tmp a)) (st.ev (.tmp b))=lH P st T (st.ev (.tmp a)) (st.ev (.tmp b)):=fun T=>C7 (u a qe) (u b qe)
  have hA:∀T,dS P st' T (st.ev (.tmp a)) (st.ev (.tmp b))=dS P st T (st.ev (.tmp a)) (st.ev (.tmp b)):=fun T=>C6 (u a qe) (u b qe)
  simp only[dU,iZ,W];cases dst with
  | none=>rfl
  | some d =>
    simp only[cT,G d rfl];grind [QO,St.ev,xW]
 grind [St.ev,Op.operands,Call.operands,map_congr_left,dU,iZ,pE,Y7]
theorem aHA {y:AV} (h:gB x y\/gB y x) {k A:Nat × Nat} (N:keyOf x=some (some k)) (Y:keyOf y=some (some A)):k≠A:=by
 unfold gB at h;rw[N,Y] at h;rcases h with h|h
 ·exact h
 ·exact fun e=>h e.symm
theorem aHB {aJ:Nat->Nat} (h:lZ aJ x) (R:keyOf x=some (some (s,g))):g<aJ s:=by
 cases x<;>simp only[keyOf,cQ,Prod.mk.injEq,reduceCtorEq] at R
 ·obtain⟨rfl,rfl⟩:=R;exact h.ptr
 ·simp_all [lZ.own]
 ·obtain⟨rfl,rfl⟩:=R;exact h.vw
theorem QA {x:Oper} (u:∀t,lZ st.aJ (st.env t)) (hax:iK x=some D) (C:iK y=some A) (G:∀d,x.dst=some d->d ∉ y.looksAt ops) (oL:∀d,x.dst=some d->y.dst≠some d)
 (hf:∀a∈D,∀b∈A,gB (st.env a) (st.env b)\/gB (st.env b) (st.env a)) (N:tA P call ops x st=some ex):tA P call ops y (ex.apply st)=tA P call ops y st:=by
 obtain⟨sd,sn,_⟩:=qC N
 have su:=Xl hax N
 refine mem_congr C (fun p hp=>?_) (fun b hb s g R=>?_) fun d hd=>?_
 ·cases p with
  | tmp t =>
    show (ex.apply st).env t=st.env t
    rw[Gh,if_neg];intro h;rw[sd] at h;exact G t h vf
  | _=>rfl
 ·have bB:=aHB (u b) R
  grind [aHA,uQ]
 grind [vF]
theorem aHC {α:Type} {A B C D:Prop} [Decidable A] [Decidable B] [Decidable C] [Decidable D] {na nb G J h:α} (h1:A->¬B) (h2:A->¬D) (h3:C->¬B) (h4:C->¬D) :
 (if B then nb else if D then J else if A then na else if C then G else h)=(if A then na else if C then G else if B then nb else if D then J else h):=by
 grind
def Xm (e:rI) (aJ:Nat->Nat) (s g:Nat):Prop:=∃d es,e.new=some (d,es)/\s=d/\aJ d<=g/\g-aJ d<es.length
def aHD (e:rI) (s g:Nat):Prop:=∃z,e.dE=some (s,g,z)
def Lj (e:rI) (aJ:Nat->Nat) (g:Nat):Option mH:=match e.new with|some (d,es)=>es[g-aJ d]? | none=>none
def aHE (e:rI):Option mH:=match e.dE with|some (_,_,z)=>z|none=>none
theorem Dr (e:rI) (st:St) (s g:Nat):(e.apply st).heap s g=if Xm e st.aJ s g then Lj e st.aJ g else if aHD e s g then aHE e else st.heap s g:=by
 grind [aHD,aHE,uQ,Xm,Lj]
theorem aHF {x:Oper} (u:∀t,lZ st.aJ (st.env t)) (p:iK x=some D) (hay:iK y=some A) (m:Oper.apart ops x y=true) (W:Pl st D A) (N:cU P call ops x st=some s1) (Y:cU P call ops y s1=some s2) :
 ∃S,cU P call ops y st=some S/\cU P call ops x S=some s2:=by
 obtain⟨r,l2,l3⟩:=Oper.apart_spec m
 have l2':∀d,y.dst=some d->x.dst≠some d:=fun d l N=>l2 d N l
 rw[Ic] at N Y;cases hex:tA P call ops x st with
 | none=>simp[hex] at N
 | some ex =>
   simp only[hex,cR,cQ] at N;subst N;rw[QA u p hay r l2 (fun a ha b hb=>.inl (W a ha b hb)) hex] at Y
   cases C:tA P call ops y st with
   | none=>simp[C] at Y
   | some X =>
     simp only[C,cR,cQ] at Y;subst Y;refine⟨X.apply st,by rw[Ic,C];rfl, ?_⟩
     rw[Ic,QA u hay p l3 l2' (fun b hb a ha=>.inr (W a ha b hb)) C,hex]
     simp only[cR,cQ];obtain⟨dx,nx,_⟩:=qC hex
     obtain⟨dy,ny,_⟩:=qC C
     have ux:=Xl p hex
     have uy:=Xl hay C
     have cx:∀d z,X.new=some (d,z)->(ex.apply st).aJ d=st.aJ d:=fun d z M=>by
      grind [vF]
     have cy:∀d z,ex.new=some (d,z)->(X.apply st).aJ d=st.aJ d:=fun d z M=>by
      grind [vF]
     apply aHy
     ·grind [Gh]
     ·funext s g
      have nyE:Xm X (ex.apply st).aJ s g↔Xm X st.aJ s g:=by
       constructor
       ·rintro⟨d,es,h,h2⟩;rw[cx d es h] at h2;exact⟨d,es,h,h2⟩
       ·rintro⟨d,es,h,h2⟩;rw[<- cx d es h] at h2;exact⟨d,es,h,h2⟩
      have nxE:Xm ex (X.apply st).aJ s g↔Xm ex st.aJ s g:=by
       constructor
       ·rintro⟨d,es,h,h2⟩;rw[cy d es h] at h2;exact⟨d,es,h,h2⟩
       ·rintro⟨d,es,h,h2⟩;rw[<- cy d es h] at h2;exact⟨d,es,h,h2⟩
      have vyE:Lj X (ex.apply st).aJ g=Lj X st.aJ g:=by
       grind [Lj]
      have vxE:Lj ex (X.apply st).aJ g=Lj ex st.aJ g:=by
       grind [Lj]
      rw[Dr,Dr,Dr,Dr];simp only[nyE,nxE,vyE,vxE];symm
      have idk:∀a s g,keyOf (st.env a)=some (some (s,g))->g<st.aJ s:=fun a s g h=>aHB (u a) h
      refine aHC ?_ ?_ ?_ ?_
      ·rintro⟨d,es,h,rfl,_⟩ ⟨d',es',G,rfl,_⟩
       grind
      ·rintro⟨d,es,h,rfl,J,_⟩ ⟨z,G⟩
       grind
      ·rintro⟨z,h⟩ ⟨d,es,G,rfl,J,_⟩
       grind
      ·rintro⟨z,h⟩ ⟨z',G⟩
       obtain⟨a,ha,hka⟩:=ux _ _ _ h
       obtain⟨b,hb,R⟩:=uy _ _ _ G
       exact aHA (.inl (W a ha b hb)) hka R rfl
     grind [vF]
end
end Go.Ab
end
section
namespace Go.Ab
open Classical
variable {G:List (Nat × Nat)} {b:Array Nat} {h0:Nat->Obj->Prop} {w0 w:World} {ρ:Nat->Nat->Value} {st st':St} {a:Act} {o:Oper} {K:Act->World->Prop} {i:Nat}
variable [Ext]
def HJ (ops:Array Oper) (acc:Array Nat):Prop :=
 ∀j o,j<acc.size->ops[j]? = some o->∀k,(acc.getD j 0).testBit k=true->∃e∈o.after,Region.binds .any e=true/\(e.on=k\/(acc.getD e.on 0).testBit k=true)
theorem QB (acc:Array Nat) (k:Nat):∀(l:List Edge) (s:Nat),(l.foldl (fun s e=>if Region.binds .any e=true then s ||| 2 ^ e.on ||| acc.getD e.on 0 else s) s).testBit k=true ->
 s.testBit k=true\/∃e∈l,Region.binds .any e=true/\(e.on=k\/(acc.getD e.on 0).testBit k=true)
 | [],s,h=>.inl h
 | e :: l,s,h=>by
   simp only[foldl_cons] at h;rcases QB acc k l _ h with h|⟨e',Ep,h⟩
   all_goals grind
theorem QC {α:Type} (n:Nat) (k:Nat->α):forced n k=k n:=by cases n<;>rfl
theorem HK (ops:Array Oper):∀(l:List Oper) (acc:Array Nat),(∀i o,l[i]? = some o->ops[acc.size+i]? = some o)->HJ ops acc->HJ ops (NV l acc)
 | [],acc,_,h=>h
 | o :: l,acc,W,h=>by
   unfold NV;rw[QC];refine HK ops l _ (fun i o' D=>?_) ?_
   ·have:=W (i+1) o' (by simpa using D)
    grind
   ·intro j C hj J k R;have oM:∀x,(acc.getD x 0).testBit k=true->((acc.push (O8 acc o)).getD x 0).testBit k=true:=fun x hx=>by
     have A:x<acc.size:=by
      grind
     simp_all [Array.getElem?_push_lt]
    rcases Nat.lt_or_ge j acc.size with A|y7
    ·have M:(acc.getD j 0).testBit k=true:=by
      simp only[Array.getD_eq_getD_getElem?,Array.getElem?_push_lt A] at R ⊢;grind
     obtain⟨e,he,hb,N⟩:=h j C A J k M
     grind
    ·have u:j=acc.size:=qg
     subst u;have p:=W 0 o qe
     rw[Nat.add_zero,J] at p;cases p
     have M:(O8 acc o).testBit k=true:=by simpa using R
     rcases QB acc k _ 0 M with h0|⟨e,he,hb,N⟩
     all_goals grind
theorem Um {ops:Array Oper} {G:List (Nat × Nat)} {b:Array Nat} {j:Nat} {C:Oper}:∀(l:List Oper) (i0:Nat),Rt ops G b j C l i0=true->∀i oi,l[i]? = some oi->i0+i<j->(b.getD j 0).testBit (i0+i)=true\/(eR oi=true/\eR C=true/\(vP ops oi C=true\/((i0+i,j)∈G/\QP ops b (i0+i) oi j C=true)))
 | [],_,_,i,oi,h,_=>by simp at h
 | o :: l,i0,h,i,oi,p,bB=>by
   unfold Rt at h;simp only[Bool.and_eq_true,Bool.or_eq_true,decide_eq_true_eq] at h;cases i with
   | zero =>
     grind
   | succ i =>
     have:=Um l (i0+1) h.2 i oi ve WF
     grind
theorem Lk {ops:Array Oper} {G:List (Nat × Nat)} {b:Array Nat}:∀(l:List Oper) (W:Nat),QQ ops G b l W=true->∀j C,l[j]? = some C ->
 (∀e∈C.after,Region.binds .any e=true->e.on<W+j)/\Rt ops G b (W+j) C ops.toList 0=true
 | [],_,_,j,C,h=>by simp at h
 | o :: l,W,h,j,C,p=>by
   unfold QQ at h;simp only[Bool.and_eq_true] at h;obtain⟨⟨h1,h2⟩,S⟩:=h
   cases j with
   | zero =>
     grind
   | succ j =>
     have:=Lk l (W+1) S j C ve
     grind
structure Gi (ops:Array Oper) (dy:List (Nat × Nat)) (b:Array Nat):Prop where
 ky:HJ ops b
 size:b.size=ops.size
 lt:∀j oj,ops[j]? = some oj->∀e∈oj.after,Region.binds .any e=true->e.on<j
 apart:∀i j oi oj,i<j->ops[i]? = some oi->ops[j]? = some oj->(b.getD j 0).testBit i=true\/(eR oi=true/\eR oj=true/\(vP ops oi oj=true\/((i,j)∈dy/\QP ops b i oi j oj=true)))
theorem HL:∀(l:List Oper) (acc:Array Nat),(NV l acc).size=acc.size+l.length
 | [],acc=>rfl
 | o :: l,acc=>by
   unfold NV;rw[QC,HL l];simp
   omega
theorem C8 {ops:Array Oper} (h:CX ops G=true):∃b,Gi ops G b:=by
 unfold CX at h;refine⟨_,HK ops ops.toList #[] (fun i o p=>ve) (fun j o Y=>by simp at Y),by rw[HL];simp,fun j C J=>?_,fun i j oi C hij A J=>?_⟩
 ·have:=(Lk _ 0 h j C ja).1
  simpa using this
 ·have:=(Lk _ 0 h j C ja).2
  simp only[Nat.zero_add] at this;have:=Um _ 0 this i oi (by simpa using A) WF
  simpa using this
section
variable {P:Program} {call:Nat->List AV->Option AV} {ops:Array Oper} {nt:Nat} {Q:Exit->Act->World->Prop}
theorem C9 {F:Jb} (S:kI F h0 w0 nt ρ st a w) {b:Bool} (h:gv ops st o.guard=some b):Region.wanted o (yielded ops a.tmps)=b:=by
 unfold gv at h;unfold Region.wanted;cases hg:o.guard with
 | none=>grind
 | some A =>
   obtain⟨j,want⟩:=A
   simp only[hg] at h;simp only
   cases l:(ops[j]?).bind (·.dst) with
   | none =>
     grind [yielded]
   | some d =>
     simp only[l] at h;split at h
     ·rename_i x N;have X:=S.env d
      rw[N] at X;have hv:=iM X
      rcases Nat.lt_or_ge d a.tmps.size with bB|y7
      ·have hv':a.tmps[d]? = some x:=by
        simp_all
       grind [yielded,Option.some.injEq]
      grind [undef,yielded]
     ·cases h
theorem Y9 {F:Jb} (S:kI F h0 w0 nt ρ st a w) (lM:mN P call)
 (hi:ops[i]? = some o) (l:∀d,o.dst=some d->d<nt) (h:cU P call ops o st=some st')
 (C:∀N u w',kI F h0 w0 nt N st' u w'->K u w'):wpOp P ops Q i K a w:=by
 unfold wpOp;simp only[hi];unfold cU at h;cases hg:gv ops st o.guard with
 | none=>simp[hg] at h
 | some b =>
   rw[C9 S hg];simp only[hg] at h;cases b with
   | true =>
     simp only[if_true] at h ⊢;cases he:dU P call o st<;>grind [Zn]
   | false =>
     simp only[Bool.false_eq_true,if_false,cQ] at h ⊢;subst h;exact C ρ _ w (S.put o.dst l (.v _))
theorem UJ (h:o.wp P a w K fun _ _ _=>False):∃u w',K u w':=by
 unfold Oper.wp at h;generalize (execOp a.eval o).run P w=r at h
 have hlet:¬LetsOut (fun _ _ _=>False):=by rintro⟨_,_,h⟩;exact h
 cases r with
 | ok n w' =>
   cases n<;>simp only[Oper.upon] at h<;>(try exact⟨_,_,h⟩)<;>(try exact h.elim)
   ·obtain⟨e,X,fr,N,_⟩:=h []
    grind
   ·obtain⟨v,X,N,_⟩:=h default []
    grind
 | halt x w'=>cases x<;>simp only[Oper.upon] at h
def Valid (nt:Nat) (st:St):Prop:=∃(F:Jb) (h0:Nat->Obj->Prop) (w0:World) (ρ:Nat->Nat->Value) (a:Act) (w:World),kI F h0 w0 nt ρ st a w
theorem Valid.ids (h:Valid nt st):∀t,lZ st.aJ (st.env t):=by
 obtain⟨F,h0,w0,ρ,a,w,S⟩:=h
 exact fun t=>⟨ctx h0 w0 ρ st w,_,rfl,S.env t⟩
theorem Valid.hp (h:Valid nt st):LS st:=by
 obtain⟨F,h0,w0,ρ,a,w,S⟩:=h
 intro s g cs he c G;obtain⟨_,_,b,arr,T,_,_,_,J⟩:=S.tG s g _ he
 obtain⟨i,hi,rfl⟩:=getElem_of_mem G
 have hl:=J.len
 exact⟨ctx h0 w0 ρ st w,arr.toList[i]' WF,rfl,J.rel i _ _ zq qe⟩
theorem Valid.step (h:Valid nt st) (A:mN P call) (l:∀d,o.dst=some d->d<nt) (he:cU P call ops o st=some st'):Valid nt st':=by
 obtain⟨F,h0,w0,ρ,a,w,S⟩:=h
 unfold cU at he;cases hg:gv ops st o.guard with
 | none=>simp[hg] at he
 | some b =>
   simp only[hg] at he;cases b with
   | true =>
     simp only[if_true] at he;cases C:dU P call o st with
     | none=>simp[C] at he
     | some e =>
       simp only[C,cR,cQ] at he;subst he;obtain⟨u,w',N,M⟩:=UJ (Zn (Q:=fun _ _ _=>False) (K:=fun u w'=>∃N,kI F h0 w0 nt N (e.apply st) u w') S A C l (fun N u w' h=>⟨N,h⟩))
       exact⟨F,h0,w0,N,u,w',M⟩
   | false =>
     simp only[Bool.false_eq_true,if_false,cQ] at he;subst he;exact⟨F,h0,w0,ρ,_,w,S.put o.dst l (.v _)⟩
theorem xL {b:Array Nat} {i a:Nat} {D:List Nat} (Y:a∈D):∀(l:List Oper) (m0:Nat),yA b i D l m0=true->∀m o,l[m]? = some o->o.dst=some a->(b.getD i 0).testBit (m0+m)=true
 | [],_,_,m,o,h,_=>by simp at h
 | o' :: l,m0,h,m,o,p,hd=>by
   unfold yA at h;simp only[Bool.and_eq_true,Bool.or_eq_true] at h;cases m with
   | zero =>
     grind
   | succ m =>
     have:=xL Y l (m0+1) h.2 m o ve hd
     grind
theorem sC.mem {s:St}:∀ {l:List (Nat × Nat)},sC ops s l->∀p∈l,CW ops s p
 | p :: l,h,q,N=>by
   rcases mem_cons.1 N with rfl|N
   ·exact h.1
   ·exact h.2.mem q N
structure Left (ops:Array Oper) (rA:Array Bool) (l:List Nat):Prop where
 size:rA.size=ops.size
 mem:∀j,j∈l↔j<ops.size/\rA.getD j true=false
 sorted:l.Pairwise (· < ·)
 closed:∀j o,ops[j]? = some o->rA.getD j false=true->∀e∈o.after,Region.binds .any e=true->rA.getD e.on false=true
theorem Gi.aQf (D:Gi ops G b):∀(j:Nat) o,ops[j]? = some o->∀k,(b.getD j 0).testBit k=true->k<j:=by
 intro j;induction j using Nat.strongRecOn with
 | _ j ih =>
   intro o p k R;have hj:j<ops.size:=(Array.getElem?_eq_some_iff.1 p).1
   obtain⟨e,he,hb,hor⟩:=D.ky j o qg p k R
   grind [lt]
theorem D0 (D:Gi ops G b) {C:Array Bool} {l:List Nat} (L:Left ops C l):∀(j:Nat) o,ops[j]? = some o->(∀e∈o.after,Region.binds .any e=true->C.getD e.on false=true) ->
 ∀k,(b.getD j 0).testBit k=true->C.getD k false=true:=by
 intro j;induction j using Nat.strongRecOn with
 | _ j S =>
   intro o p u k R;have hj:j<ops.size:=(Array.getElem?_eq_some_iff.1 p).1
   obtain⟨e,he,hb,N⟩:=D.ky j o qg p k R
   have hle:=u e he hb
   rcases N with rfl|M
   ·exact hle
   ·have A:=D.lt j o p e he hb
    have r:e.on<ops.size:=WF
    exact S e.on A _ (Array.getElem?_eq_getElem r) (L.closed e.on _ (Array.getElem?_eq_getElem r) hle) k M
end
end Go.Ab
end
section
namespace Go.Ab
open Classical
variable {ops:Array Oper} {id a i:Nat} {draw:Bool} {o:Oper} {Q:Exit->Act->World->Prop} {ρ:Nat->Nat->Value} {st:St} {w:World} {p:Nat->Prop}
variable [Ext]
section
variable {P:Program} {call:Nat->List AV->Option AV} {inl:Nat->List AV->St->Option (AV × St)} {bi:Bool} {nt:Nat} {h0:Nat->Obj->Prop} {w0:World} {F:Jb}
theorem MB (h:codeOk bi nt (.region id ops draw)=true):(∀(j:Nat) o,ops[j]? = some o->∀d,o.dst=some d->d<nt)/\(draw=true->CX ops (if bi=true then Ext.dyn id ops.size (tK ops) else [])=true):=by
 grind [codeOk]
def Pf (P:Program) (inl:Nat->List AV->St->Option (AV × St)):Prop :=
 ∀g xs st r D,inl g xs st=some (r,D)->Enters P g /\
  ∀(F:Jb) (h0:Nat->Obj->Prop) (w0:World) (nt:Nat) (ρ:Nat->Nat->Value) (a:Act) (w:World) (vs:Array Value) (K:Value->World->Prop),kI F h0 w0 nt ρ st a w->jD (ctx h0 w0 ρ st w) xs vs.toList ->
   (∀N w' v,kI F h0 w0 nt N (st.back D) a w'->cD (ctx h0 w0 N (st.back D) w') r v->K v w')->Calls P g vs w fun X w'=>∃v,X=.returned v/\K v w'
theorem Z0 {g:Nat} {args:List Operand} (h:Ip o=some (g,args)):∃c,o.op=.call c/\c.callee=.value (.func g)/\c.args.toList=args:=by
 grind [Ip]
theorem Zq {st':St} {a:Act} {K:Act->World->Prop} (S:kI F h0 w0 nt ρ st a w) (lM:mN P call) (m:Pf P inl)
 (hi:ops[i]? = some o) (l:∀d,o.dst=some d->d<nt) (h:fZ P bi call inl ops o st=some st')
 (hK:∀N u w',kI F h0 w0 nt N st' u w'->K u w'):wpOp P ops Q i K a w:=by
 unfold fZ at h;split at h
 ·rename_i g args hg;have XK:Ip o=some (g,args):=by
   grind
  obtain⟨c,A,hcal,Uh⟩:=Z0 XK
  unfold wpOp;simp only[hi];cases R:gv ops st o.guard with
  | none=>simp[R] at h
  | some b =>
    rw[C9 S R];simp only[R] at h;cases b with
    | true =>
      simp only[if_true] at h ⊢;cases he:inl g (args.map st.ev) st with
      | none=>simp[he] at h
      | some r =>
        obtain⟨x,D⟩:=r
        simp only[he,cR,cQ] at h;subst h;refine .inl ?_
        obtain⟨⟨fn,Y,aHw,hbody⟩,W⟩:=m g _ st x D he
        have hnb:fn.body.isNone=false:=by
         simp_all
        have G : ¬ fn.name = "runtime.NumGoroutine" := by simpa using aHw
        have X:¬fn.body=none:=qg
        have xK:(execOp a.eval o).run P w=.ok (.enter g (c.args.map a.eval)) w:=by
         simp[execOp,A,resolve,hcal,Act.eval,Deferred.ofValue,invoke,callFunc,Y,G,X]
        have J:jD (ctx h0 w0 ρ st w) (args.map st.ev) (c.args.map a.eval).toList:=by
         rw[<- Uh];simpa using jD.map c.args.toList _ _ fun p _=>S.ev p
        unfold Oper.wp;rw[xK,Oper.upon_enter];refine (W F h0 w0 nt ρ a w (c.args.map a.eval) (fun v w'=>K (a.put o.dst v) w') S J fun N w' v M C=>?_).mono ?_
        ·exact hK N _ w' (M.put o.dst l C)
        grind
    | false =>
      simp only[Bool.false_eq_true,if_false,cQ] at h ⊢;subst h;exact hK ρ _ w (S.put o.dst l (.v _))
 grind [Y9]
theorem HM {ops:Array Oper} (A:mN P call) (m:Pf P inl) (r:∀(j:Nat) o,ops[j]? = some o->∀d,o.dst=some d->d<nt) {Q:Exit->Act->World->Prop} {X:St}
 (C:∀N u w',kI F h0 w0 nt N X u w'->Q .normal u w'):∀(l:List Oper) (k:Nat) (st:St) (ρ:Nat->Nat->Value) (a:Act) (w:World),(∀(j:Nat) o,l[j]? = some o->ops[k+j]? = some o)->kI F h0 w0 nt ρ st a w ->
  mW P bi call inl ops l st=some X->wpOps P ops Q (List.range' k l.length) a w
 | [],k,st,ρ,a,w,W,S,h=>by
   simp only[mW,cQ] at h;subst h;exact C ρ a w S
 | o :: l,k,st,ρ,a,w,W,S,h=>by
   rw[length_cons,range'_succ,wpOps_cons];have hi:ops[k]? = some o:=W 0 o rfl
   unfold mW at h;cases J:fZ P bi call inl ops o st with
   | none=>simp[J,cT] at h
   | some s1 =>
     simp only[J,cT] at h;exact Zq S A m hi (r k o hi) J fun N u w' M=>HM A m r C l (k+1) s1 N u w' (fun j o' Y=>by
      have:=W (j+1) o' xn
      grind) M h
def Qn (P:Program) (bi:Bool) (call:Nat->List AV->Option AV) (inl:Nat->List AV->St->Option (AV × St)) (ops:Array Oper):List Nat->St->Option St
 | [],st=>some st
 | i :: r,st =>
   match ops[i]? with
   | some o=>cT (fZ P bi call inl ops o st) (Qn P bi call inl ops r)
   | none=>Qn P bi call inl ops r st
theorem Zr {ops:Array Oper}:∀(l:List Oper) (k:Nat) (st:St),(∀j,l[j]? = ops[k+j]?\/l.length<=j)->mW P bi call inl ops l st=Qn P bi call inl ops (List.range' k l.length) st
 | [],k,st,h=>rfl
 | o :: l,k,st,h=>by
   have h0:=(h 0).resolve_right qe
   simp only[getElem?_cons_zero,Nat.add_zero] at h0;simp only[mW,length_cons,range'_succ,Qn,<- h0];cases fZ P bi call inl ops o st with
   | none=>rfl
   | some s =>
     simp only[cT];exact Zr l (k+1) s fun j=>by
      rcases h (j+1) with h|h
      all_goals grind
theorem HN {s:St} (h:cU P call ops o st=some s) (hd:o.dst≠some a):s.env a=st.env a:=by
 rw[Ic] at h;cases he:tA P call ops o st<;>grind [Gh,qC]
theorem aHG (h:eR o=true):Ip o=none:=by simpa [eR] using h
theorem D1 (h:eR o=true) (st:St):fZ P bi call inl ops o st=cU P call ops o st:=by
 grind [fZ,aHG]
theorem aDF {s:St} (h:fZ P bi call inl ops o st=some s) (l:o.dst≠some a):s.env a=st.env a:=by
 unfold fZ at h;have A:∀(D:St) (x:AV),(D.put o.dst x).env a=D.env a:=fun D x=>by
  cases hod:o.dst<;>grind [St.put]
 split at h
 ·split at h
  ·split at h
   ·simp only[Option.map_eq_some_iff] at h;obtain⟨r,_,rfl⟩:=h
    exact A _ _
   grind
  ·cases h
 ·exact HN h l
theorem Uo {ops:Array Oper} {a:Nat}:∀(l:List Nat) {st X:St},(∀m∈l,∀o,ops[m]? = some o->o.dst≠some a)->Qn P bi call inl ops l st=some X->X.env a=st.env a
 | [],st,X,_,h=>by
   grind [Qn]
 | i :: l,st,X,hd,h=>by
   unfold Qn at h;cases hi:ops[i]? with
   | none=>simp only[hi] at h;exact Uo l (fun m hm=>hd m (by simp[hm])) h
   | some o =>
     simp only[hi] at h;cases J:fZ P bi call inl ops o st with
     | none=>simp[J,cT] at h
     | some s1 =>
       simp only[J,cT] at h;rw[Uo l (fun m hm=>hd m (by simp[hm])) h,aDF J (hd i qe o hi)]
def aB1 (ops:Array Oper) (X:St) (rest:List Nat) (k:Nat) (ok oi:Oper):Prop :=
 vP ops ok oi=true\/∃D A,iK ok=some D/\iK oi=some A/\Oper.apart ops ok oi=true/\Pl X D A /\
  (∀m∈rest,k<=m->∀o,ops[m]? = some o->∀a∈D,o.dst≠some a)/\(∀m∈rest,∀o,ops[m]? = some o->∀b∈A,o.dst≠some b)
theorem HO {ops:Array Oper} (lM:mN P call) (oL:∀(j:Nat) o,ops[j]? = some o->∀d,o.dst=some d->d<nt) {i:Nat} {oi:Oper} (hi:ops[i]? = some oi) (W:List Nat):∀(r:List Nat) (st X:St),Valid nt st->(r++i :: W).Pairwise (· < ·) ->
 (∀k∈r,∃ok,ops[k]? = some ok/\eR ok=true/\eR oi=true/\aB1 ops X (r++i :: W) k ok oi)->Qn P bi call inl ops (r++i :: W) st=some X->Qn P bi call inl ops (i :: (r++W)) st=some X
 | [],st,X,_,_,_,h=>h
 | k :: r,st,X,C,hs,Aw,h=>by
   obtain⟨ok,nU,Ft,hn2,hak⟩:=Aw k qe
   have A:=fun st=>D1 (P:=P) (bi:=bi) (call:=call) (inl:=inl) (ops:=ops) Ft st
   have M:=fun st=>D1 (P:=P) (bi:=bi) (call:=call) (inl:=inl) (ops:=ops) hn2 st
   simp only[cons_append,Qn,nU,A] at h;cases J:cU P call ops ok st with
   | none=>simp[J,cT] at h
   | some s1 =>
     simp only[J,cT] at h;rw[cons_append,pairwise_cons] at hs;have S:=HO lM oL hi W r s1 X (C.step lM (oL k ok nU) J) hs.2 (fun k' R=>by
      obtain⟨ok',J,m1,m2,h2⟩:=Aw k' ct
      refine⟨ok',J,m1,m2,h2.imp id ?_⟩
      grind) h
     have ih0:=S
     simp only[Qn,hi,M] at S;cases h2:cU P call ops oi s1 with
     | none=>simp[h2,cT] at S
     | some s2 =>
       simp only[h2,cT] at S;have hcomm:∃s3,cU P call ops oi st=some s3/\cU P call ops ok s3=some s2:=by
        rcases hak with hak|⟨D,bs,N,e2',e3,G,e5,l⟩
        ·exact aLf C.hp hak C.ids J h2
        ·have u:∀m∈i :: (r++W),m∈(k :: r)++i :: W/\k<=m:=fun m hm=>by
          grind
         have f1:∀a∈D,X.env a=st.env a:=fun a Y=>by
          rw[Uo _ (fun m hm o p=>e5 m (u m hm).1 (u m hm).2 o p a Y) ih0,HN J (e5 k qe (Nat.le_refl _) ok nU a Y)]
         have f2:∀b∈bs,X.env b=st.env b:=fun b hb=>by
          rw[Uo _ (fun m hm o p=>l m (u m hm).1 o p b hb) ih0,HN J (l k qe ok nU b hb)]
         have e4':Pl st D bs:=fun a Y b hb=>by
          have:=G a Y b hb
          grind
         exact aHF C.ids N e2' e3 e4' J h2
       grind [Qn,cT]
theorem HP {ops:Array Oper} {Q:Exit->Act->World->Prop} (lM:mN P call) (Un:Pf P inl) (oL:∀(j:Nat) o,ops[j]? = some o->∀d,o.dst=some d->d<nt) {dy:List (Nat × Nat)} {b:Array Nat} (D:Gi ops dy b) {sf:St} (hsw:sC ops sf dy)
 (C:∀oZ u w',kI F h0 w0 nt oZ sf u w'->Q .normal u w'):∀(f:Nat) (l:List Nat) (rA:Array Bool) (st:St) (ρ:Nat->Nat->Value) (a:Act) (w:World),l.length=f->Left ops rA l->kI F h0 w0 nt ρ st a w ->
 Qn P bi call inl ops l st=some sf->wpAny P .any ops Q f rA a w
 | 0,l,rA,st,ρ,a,w,W,L,S,he=>by
   have hl:=length_eq_zero_iff.1 W
   subst hl;simp only[Qn,cQ] at he;subst he;refine⟨?_,C ρ a w S⟩
   cases X:Region.ready .any ops rA with
   | nil=>rfl
   | cons x xs =>
     have N:x∈Region.ready .any ops rA:=by rw[X];simp
     obtain⟨J,o,p,_⟩:=mem_ready.1 N
     have:=(L.mem x).2 ⟨(Array.getElem?_eq_some_iff.1 p).1,J⟩
     simp at this
 | f+1,l,rA,st,ρ,a,w,W,L,S,he=>by
   refine⟨fun X=>?_,fun i hi=>?_⟩
   ·exfalso
    cases l with
    | nil=>simp at W
    | cons i l =>
      have hil:=(L.mem i).1 qe
      have:i∈Region.ready .any ops rA:=mem_ready.2 ⟨hil.2,ops[i],Array.getElem?_eq_getElem hil.1,fun e Ep hb=>by
       have A:=D.lt i _ (Array.getElem?_eq_getElem hil.1) e Ep hb
       cases hle:rA.getD e.on false with
       | true=>rfl
       | false =>
         have hsz:e.on<rA.size:=by rw[L.size];omega
         have Ry:=(L.mem e.on).2 ⟨WF,qg⟩
         rcases mem_cons.1 Ry with h|h
         ·omega
         ·have:=(pairwise_cons.1 L.sorted).1 _ h
          omega⟩
      grind
   ·obtain⟨J,oi,hoi,P1⟩:=mem_ready.1 hi
    have hilt:i<ops.size:=(Array.getElem?_eq_some_iff.1 hoi).1
    have hil:=(L.mem i).2 ⟨hilt,J⟩
    obtain⟨r,l2,rfl⟩:=append_of_mem hil
    have hs:=L.sorted
    rw[pairwise_append] at hs;obtain⟨s1,s2,s3⟩:=hs
    have hno:∀m,(b.getD i 0).testBit m=true->m ∉ r++i :: l2:=fun m h hm=>by
     have hkm:=(L.mem m).1 hm
     grind [D0]
    have Aw:∀k∈r,∃ok,ops[k]? = some ok/\eR ok=true/\eR oi=true/\aB1 ops sf (r++i :: l2) k ok oi:=fun k R=>by
     have KK:=s3 k R i qe
     have hkm:=(L.mem k).1 ct
     refine⟨ops[k],Array.getElem?_eq_getElem hkm.1, ?_⟩
     rcases D.apart k i _ oi KK (Array.getElem?_eq_getElem hkm.1) hoi with h|⟨G,n2,h|⟨hm,h⟩⟩
     ·grind
     ·exact⟨G,n2,.inl h⟩
     ·refine⟨G,n2,.inr ?_⟩
      have hsa:=hsw.mem _ hm
      unfold CW at hsa;simp only[Array.getElem?_eq_getElem hkm.1,hoi,Option.bind_some] at hsa;unfold QP at h;cases Y:iK ops[k] with
      | none=>grind
      | some aS =>
        cases ha':iK oi with
        | none=>grind
        | some bs =>
          rw[Y,ha'] at hsa h;simp only[Bool.and_eq_true] at h hsa;refine⟨aS,bs,rfl,rfl,h.1.1,hsa,fun m hm hkm' o p a haa hd=>?_,fun m hm o p b Pn hd=>?_⟩
          ·have hb:=xL haa _ 0 h.1.2 m o ve hd
           rw[Nat.zero_add] at hb;have A:=D.aQf k _ (Array.getElem?_eq_getElem hkm.1) m hb
           omega
          ·have hb:=xL Pn _ 0 h.2 m o ve hd
           grind
    have Ep:=HO lM oL hoi l2 r st sf ⟨F,h0,w0,ρ,a,w,S⟩ L.sorted Aw he
    simp only[Qn,hoi] at Ep
    cases h2:fZ P bi call inl ops oi st with
    | none=>simp[h2,cT] at Ep
    | some s2' =>
      simp only[h2,cT] at Ep
      refine Zq S lM Un hoi (oL i oi hoi) h2 fun oZ u w' M=>?_
      refine HP lM Un oL D hsw C f (r++l2) _ s2' oZ u w' qg ⟨by simp[L.size],fun j=>?_, ?_,fun j o p hlj e he'' hb=>?_⟩ M Ep
      ·have hm:=L.mem j
       simp only[mem_append,mem_cons] at hm ⊢;by_cases hji:j=i
       ·subst hji;have Ft:j ∉ r:=fun h=>by grind
        have hn2:j ∉ l2:=fun h=>by grind [pairwise_cons]
        simp_all
       ·rw[getD_set_ne true (Ne.symm hji)];grind
      ·grind
      ·by_cases hji:i=j
       ·grind [getD_set_true]
       ·rw[getD_set_ne false hji] at hlj;grind [getD_set_true,Left.closed]
theorem UK (hm:P.follows .mixedOrders=true) (A:mN P call) (m:Pf P inl) (R:codeOk bi nt (.region id ops draw)=true) {X:St} {a:Act}
 (S:kI F h0 w0 nt ρ st a w) (G:bi=true->sC ops X (Ext.dyn id ops.size (tK ops))) (h:mW P bi call inl ops ops.toList st=some X) (C:∀N u w',kI F h0 w0 nt N X u w'->Q .normal u w'):(Code.region id ops draw).wp P Q a w:=by
 obtain⟨r,J⟩:=MB R
 cases draw with
 | false =>
   refine wp_region ?_
   rw[range_eq_range'];have:=HM A m r C ops.toList 0 st ρ a w (fun j o Y=>xn) S h
   simpa using this
 | true =>
   rw[Zr ops.toList 0 st (fun j=>.inl qe)] at h
   obtain⟨b,D⟩:=C8 (J rfl)
   refine wp_region_any hm ?_
   have hg:w.grownBy { w with drawn:=w.drawn+1 } none:=⟨rfl,rfl,rfl,Nat.le_refl _,fun _ _ _=>rfl⟩
   have M:sC ops X (if bi=true then Ext.dyn id ops.size (tK ops) else []):=by
    cases bi with
    | true=>exact G rfl
    | false=>exact trivial
   refine HP A m r D M C ops.size (List.range' 0 ops.size) _ st ρ a _ qe ⟨qe,fun j=>?_, ?_,fun j o ho W=>?_⟩ (S.grow hg).1 dr
   ·simp_all
   ·rw[<- range_eq_range'];exact pairwise_lt_range
   ·simp[Array.getD_eq_getD_getElem?,Array.getElem?_replicate] at W
    grind
theorem exists_least (h:∃n,p n):∃n,p n/\∀m,p m->n<=m:=by
 obtain⟨n,hn⟩:=h
 induction n using Nat.strongRecOn<;>grind
def HQ (p:Nat->Prop):Nat:=if h:∃n,p n then Classical.choose (exists_least h) else 0
theorem Zs (h:∃n,p n):p (HQ p)/\∀m,p m->HQ p<=m:=by
 grind [HQ]
def Ex.to:Ex->Exit
 | .normal=>.normal
 | .exit id=>.exit id
 | .ret=>.ret
theorem sR (hm:P.follows .mixedOrders=true) (lM:mN P call) (Un:Pf P inl) (n:Nat):∀(c:Code) (st X:St) (ex:Ex) (ρ:Nat->Nat->Value) (a:Act) (w:World) (Q:Exit->Act->World->Prop),codeOk bi nt c=true ->
 kI F h0 w0 nt ρ st a w->xZ P bi call inl n c st=some (ex,X)->(∀N u w',kI F h0 w0 nt N X u w'->Q ex.to u w')->c.wp P Q a w:=by
 induction n using Nat.strongRecOn with
 | _ n ih =>
 have sR:∀m,m<n->∀(c:Code) (st X:St) (ex:Ex) (ρ:Nat->Nat->Value) (a:Act) (w:World) (Q:Exit->Act->World->Prop),codeOk bi nt c=true ->
  kI F h0 w0 nt ρ st a w->xZ P bi call inl m c st=some (ex,X)->(∀N u w',kI F h0 w0 nt N X u w'->Q ex.to u w')->c.wp P Q a w:=ih
 clear ih
 intro c st X ex ρ a w Q R S h C;cases n with
 | zero=>simp[xZ] at h
 | succ n =>
   cases c<;>simp only[xZ] at h
   case skip =>
    simp only[cQ,Prod.mk.injEq] at h;obtain⟨rfl,rfl⟩:=h
    exact wp_skip (C ρ a w S)
   case region id ops draw =>
    cases J:mW P bi call inl ops ops.toList st with
    | none=>simp[J,cT] at h
    | some s1 =>
      simp only[J,cT] at h;split at h
      ·cases h
      ·rename_i hsw;simp only[cQ,Prod.mk.injEq] at h;obtain⟨rfl,rfl⟩:=h
       exact UK hm lM Un R S (fun hb=>Classical.byContradiction fun G=>hsw ⟨hb,G⟩) J C
   case seq x y =>
    simp only[codeOk,Bool.and_eq_true] at R;cases J:xZ P bi call inl n x st with
    | none=>simp[J,cT] at h
    | some r =>
      obtain⟨A,s1⟩:=r
      simp only[J,cT] at h;refine wp_seq (sR n WF x st s1 A ρ a w _ R.1 S J fun N u w' M=>?_)
      cases A with
      | normal=>exact sR n WF y s1 X ex N u w' Q R.2 M h C
      | exit id =>
        simp only[cQ,Prod.mk.injEq] at h;obtain⟨rfl,rfl⟩:=h
        exact C N u w' M
      | ret =>
        simp only[cQ,Prod.mk.injEq] at h;obtain⟨rfl,rfl⟩:=h
        exact C N u w' M
   case cond c x y =>
    simp only[codeOk,Bool.and_eq_true] at R;split at h
    ·rename_i t ht;have hr:=S.ev c
     grind [iM,wp_cond]
    ·cases h
   case block id b =>
    simp only[codeOk] at R;cases J:xZ P bi call inl n b st with
    | none=>simp[J,cT] at h
    | some r =>
      obtain⟨A,s1⟩:=r
      simp only[J,cT,cQ,Prod.mk.injEq] at h;obtain⟨rfl,rfl⟩:=h
      refine wp_block (sR n WF b st s1 A ρ a w _ R S J fun N u w' M=>?_)
      have:=C N u w' M
      cases A<;>grind [Ex.inBlock,Ex.to,Exit.inBlock]
   case loop b =>
    have hok':=R
    simp only[codeOk] at R;let p:Act->World->Nat->Prop:=fun a w m=>m<=n+1/\∃st ρ,kI F h0 w0 nt ρ st a w/\xZ P bi call inl m (.loop b) st=some (ex,X)
    refine wp_loop (fun a w=>∃m,p a w m) (fun a w=>HQ (p a w)) ⟨n+1,Nat.le_refl _,st,ρ,S,h⟩ fun a w D=>?_
    obtain⟨⟨hle,XI,W,S1,J⟩,_⟩:=Zs D
    generalize HQ (p a w)=m at J hle
    cases m with
    | zero=>simp[xZ] at J
    | succ m =>
      simp only[xZ] at J;cases h2:xZ P bi call inl m b XI with
      | none=>simp[h2,cT] at J
      | some r =>
        obtain⟨A,s1⟩:=r
        simp only[h2,cT] at J;have hmn:m<=n:=WF
        refine sR m WF b XI s1 A W a w _ R S1 h2 fun N u w' M=>?_
        cases A with
        | normal =>
          have hp:p u w' m:=⟨WF,s1,N,M,J⟩
          exact⟨⟨m,hp⟩,Nat.lt_succ_of_le ((Zs ⟨m,hp⟩).2 m hp)⟩
        | exit id =>
          simp only[cQ,Prod.mk.injEq] at J;obtain⟨rfl,rfl⟩:=J
          exact C N u w' M
        | ret =>
          simp only[cQ,Prod.mk.injEq] at J;obtain⟨rfl,rfl⟩:=J
          exact C N u w' M
   case exit id =>
    simp only[cQ,Prod.mk.injEq] at h;obtain⟨rfl,rfl⟩:=h
    exact wp_exit (C ρ a w S)
   case ret =>
    simp only[cQ,Prod.mk.injEq] at h;obtain⟨rfl,rfl⟩:=h
    exact wp_ret (C ρ a w S)
   case label l =>
    simp only[cQ,Prod.mk.injEq] at h;obtain⟨rfl,rfl⟩:=h
    exact wp_label (C ρ a w S)
   case scope b=>exact wp_scope_straight (sR n WF b st X ex ρ a w _ R S h fun N u w' M=>by cases ex<;>exact C N u w' M)
   all_goals cases h
end
end Go.Ab
end
