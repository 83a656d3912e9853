/-
  Part 11 of the proof: an evaluator of programs, its soundness, and what functions of this program compute.
-/
import Derived.Test.YtmcjkemalibacaaGreatK10
import Derived.Test.YtmcjkemalibacaaGreatK7
import Derived.Test.YtmcjkemalibacaaGreatK9
set_option linter.all false
set_option maxRecDepth 20000
set_option maxHeartbeats 40000000
open Go.IntKind (i64 u64)
open List Go.Proofs.Tryz
noncomputable section
namespace Go.Ab.Tryz
open Classical Go.Proofs Go.Ab
def QE (ns:List Node):∀k:Nat,(bV ns).take (k * 240)=bV (ns.take k):=by
 induction ns with
 | nil=>intro k;simp[bV]
 | cons a l ih =>
   intro k;cases k with
   | zero=>simp[bV]
   | succ k =>
     simp only[bV,flatMap_cons,take_succ_cons] at *
     rw[take_append,take_of_length_le (by simp;omega),tX,show (k+1) * 240-240=k * 240 by omega,ih]
def YJ {st:St} {ns:List Node} {hi:Operand} {k:Nat} (h:st.ev hi=.v (.int .i64 k)) (hk:k<=ns.length):cZ prog st 48 (.sl ns.length (bV ns)) none (some hi)=some (.sl (ns.take k).length (bV (ns.take k))):=by
 have hl:(bV ns).length=ns.length * 240:=by simp
 simp only[cZ,KV,hl,h];rw[if_pos (by refine⟨Int.le_refl _,by omega,by omega,trivial⟩)]
 simp only[Int.toNat_zero,Nat.zero_mul,drop_zero,Int.sub_zero,Int.toNat_natCast];rw[QE,length_take,Nat.min_eq_left hk]
def Uh {ns:List Node} {k:Nat} (hk:k<=ns.length) (r:cC):0<=aC (ns.take k) r↔r∈rts ns k:=by
 unfold aC rts;cases h:(ns.take k).findIdx? (fun n=>decide (n.block.root=r)) with
 | none =>
   simp only
   rw[findIdx?_eq_none_iff] at h;constructor
   ·intro h;omega
   ·intro hm;obtain⟨n,hn,he⟩:=mem_map.1 hm
    have:=h n hn
    simp[he] at this
 | some j =>
   simp only
   obtain⟨h1,h2,_⟩:=findIdx?_eq_some_iff_getElem.1 h
   constructor
   ·intro _;exact mem_map.2 ⟨_,getElem_mem h1,by simpa using h2⟩
   ·intro _;omega
def aPr (ns:List Node) (hn:(ns.length:Int)<1000000):aG prog 174 [.agg (cH ⟨ns⟩)]=some (.v (.int .i64 (Ok ns))):=by
 rw[cL func174 rfl rfl];by_cases h0:ns.length=0
 ·have hq:((ns.length:Int) == 0)=true:=by simp[h0]
  have hv:Ok ns=11:=if_pos (.inl h0)
  simp only[ZZ,seval,hq];exact bT rfl (by simp only[EV,seval,hv]) (.v _)
 ·have hq:((ns.length:Int) == 0)=false:=by simp[h0]
  by_cases h1:(4096:Int)<ns.length
  ·have hv:Ok ns=11:=if_pos (.inr (by omega))
   simp only[ZZ,seval,hq,h1];exact bT rfl (by simp only[EV,seval,hv]) (.v _)
  ·have hv:Ok ns=Em ns ns.length:=if_neg (by omega)
   rw[hv];simp only[ZZ,seval,hq,h1];refine jK (fun n st=>∃k:Nat,(st.env 1=.ptr 1 0 0/\st.heap 1 0=some (.cells (cH ⟨ns⟩))/\st.env 3=.v (.int .i64 k))/\Em ns k=0/\k<=ns.length/\n=ns.length-k)
    (fun e st=>(e=.ret/\st.env 2=.v (.int .i64 (Em ns ns.length)))\/(e=.exit 0/\Em ns ns.length=0)) ns.length ?step ?start ?rest
   case step =>
    rintro n st ⟨k,hI,hz,hk,Hu⟩
    by_cases aW:(k:Int)<ns.length
    ·have hw:i64.wrap ((k:Int)+1)=((k+1:Nat):Int):=by rw[Ej _ (by omega) (by omega)];omega
     have q0:(0:Int)<=k:=by omega
     have hat:=fun h=>aDZ (ns:=ns) (k:=k) (by omega) hz h
     have FG:=fun st hi h=>YJ (st:=st) (ns:=ns) (hi:=hi) (k:=k) h hk
     have hF:∀(r:cC) (st:St) (d:Option Nat),bH (aG prog) 46 [.agg [.sl (ns.take k).length (bV (ns.take k))],.agg (bC r)] st d=some { dst:=d,val:=.v (.int .i64 (aC (ns.take k) r))}:=fun r st d=>lY (ns.take k) r (by simp;omega) st d
     cases tG:Ub (nd ns k).status
     ·have hE:rL ns k=2:=by unfold rL;rw[if_pos (.inl tG)]
      apply oT (.ret)
      ·simp only[ZZ,seval,hI,aW,q0,Og,tG];rfl
      ·exact .inl ⟨rfl,by rw[hat (by omega),hE];simp only[EV,seval]⟩
     ·by_cases rC:k=0
      ·have PH:(k:Int)=0:=by omega
       have heq:((k:Int) == 0)=true:=by simp[rC]
       by_cases zM:(nd ns k).up=-1
       ·have hu:((nd ns k).up != -1)=false:=by simp[zM]
        have hE:rL ns k=0:=by
         unfold rL;rw[if_neg,if_neg,if_pos PH]
         ·rintro⟨j,j0,j1,_⟩;omega
         ·rintro (h|⟨_,h⟩|⟨h,_⟩)
          ·rw[tG] at h;cases h
          ·exact h zM
          ·omega
        have hm:(0<=aC (ns.take k) (nd ns k).block.root)=False:=by
         rw[Uh hk];simp[rts,rC]
        have hng:¬(0:Int)<k:=by omega
        apply oN (ns.length-(k+1))
        ·simp only[ZZ,seval,hI,aW,q0,Og,tG,hu,hng,heq,FG,hF,hm,hw];rfl
        ·exact⟨k+1,by simp only[EV,seval,hI],by simp only[Em,hz,if_true,hE],by omega,rfl⟩
       ·have hu:((nd ns k).up != -1)=true:=by simp[zM]
        have hE:rL ns k=2:=by unfold rL;rw[if_pos (.inr (.inl ⟨PH,zM⟩))]
        apply oT (.ret)
        ·simp only[ZZ,seval,hI,aW,q0,Og,tG,hu,heq];rfl
        ·exact .inl ⟨rfl,by rw[hat (by omega),hE];simp only[EV,seval]⟩
      ·have hg:(0:Int)<k:=by omega
       have heq:((k:Int) == 0)=false:=by simp[rC]
       by_cases hu0:(nd ns k).up<0
       ·have hE:rL ns k=2:=by unfold rL;rw[if_pos (.inr (.inr ⟨hg,.inl hu0⟩))]
        apply oT (.ret)
        ·simp only[ZZ,seval,hI,aW,q0,Og,tG,heq,hg,hu0];rfl
        ·exact .inl ⟨rfl,by rw[hat (by omega),hE];simp only[EV,seval]⟩
       ·by_cases hu1:(k:Int)<=(nd ns k).up
        ·have hE:rL ns k=2:=by unfold rL;rw[if_pos (.inr (.inr ⟨hg,.inr hu1⟩))]
         apply oT (.ret)
         ·simp only[ZZ,seval,hI,aW,q0,Og,tG,heq,hg,hu0,hu1];rfl
         ·exact .inl ⟨rfl,by rw[hat (by omega),hE];simp only[EV,seval]⟩
        ·have Li:rL ns k=if ∃j:Int,0<=j/\j<k/\(nd ns j).block.root=(nd ns k).block.root then 9 else if (k:Int)=0 then 0 else if (nd ns k).block.parent≠(nd ns (nd ns k).up).block.root then 10 else if (nd ns k).block.slot<=(nd ns (nd ns k).up).block.slot then 14 else 0:=by
          conv=>lhs;unfold rL
          rw[if_neg];rintro (h|⟨h,_⟩|⟨_,h|h⟩)
          ·rw[tG] at h;cases h
          ·omega
          ·omega
          ·omega
         have u0:0<=(nd ns k).up:=by omega
         have u1:(nd ns k).up<ns.length:=by omega
         by_cases XZ:(nd ns k).block.root∈rts ns k
         ·have hm:(0<=aC (ns.take k) (nd ns k).block.root)=True:=eq_true ((Uh hk _).2 XZ)
          have hE:rL ns k=9:=by rw[Li,if_pos ((F3 hk _).1 XZ)]
          apply oT (.ret)
          ·simp only[ZZ,seval,hI,aW,q0,Og,tG,heq,hg,hu0,hu1,FG,hF,hm];rfl
          ·exact .inl ⟨rfl,by rw[hat (by omega),hE];simp only[EV,seval]⟩
         ·have hm:(0<=aC (ns.take k) (nd ns k).block.root)=False:=eq_false (fun h=>XZ ((Uh hk _).1 h))
          rw[if_neg (fun h=>XZ ((F3 hk _).2 h)),if_neg (by omega)] at Li
          by_cases hp:(nd ns k).block.parent=(nd ns (nd ns k).up).block.root
          ·have hpd:decide ((nd ns k).block.parent=(nd ns (nd ns k).up).block.root)=true:=decide_eq_true hp
           rw[if_neg (fun h=>h hp)] at Li
           by_cases hs:(nd ns k).block.slot<=(nd ns (nd ns k).up).block.slot
           ·rw[if_pos hs] at Li;apply oT (.ret)
            ·simp only[ZZ,seval,hI,aW,q0,Og,tG,heq,hg,hu0,hu1,FG,hF,hm,u0,u1,hpd,hs];rfl
            ·exact .inl ⟨rfl,by rw[hat (by omega),Li];simp only[EV,seval]⟩
           ·rw[if_neg hs] at Li;apply oN (ns.length-(k+1))
            ·simp only[ZZ,seval,hI,aW,q0,Og,tG,heq,hg,hu0,hu1,FG,hF,hm,u0,u1,hpd,hs,hw];rfl
            ·exact⟨k+1,by simp only[EV,seval,hI],by simp only[Em,hz,if_true,Li],by omega,rfl⟩
          ·have hpd:decide ((nd ns k).block.parent=(nd ns (nd ns k).up).block.root)=false:=decide_eq_false hp
           rw[if_pos hp] at Li;apply oT (.ret)
           ·simp only[ZZ,seval,hI,aW,q0,Og,tG,heq,hg,hu0,hu1,FG,hF,hm,u0,u1,hpd];rfl
           ·exact .inl ⟨rfl,by rw[hat (by omega),Li];simp only[EV,seval]⟩
    ·obtain rfl:k=ns.length:=by omega
     apply oT (.exit 0)
     ·simp only[ZZ,seval,hI,aW];rfl
     ·exact .inr ⟨rfl,hz⟩
   case start=>exact⟨0,by simp only[EV,seval],rfl,by omega,by omega⟩
   case rest =>
    rintro e st (⟨rfl,h⟩|⟨rfl,h⟩)
    ·simp only[ZZ,seval];exact bT rfl h (.v _)
    ·simp only[ZZ,seval];exact bT rfl (by simp only[EV,seval,h]) (.v _)
def aPs (ns:List Node) (hn:(ns.length:Int)<1000000):KC 174 [.agg (cH ⟨ns⟩)] (.v (.int .i64 (Ok ns))):=fun _ _=>bE (cP (lL _)) (aPr ns hn) (.v _)
def AM [Ext] {P:Program} {f:Nat} {fn:Func} {st:St} {e:Ex} {r:ResultVar} {x y:AV} (hk:Ext.pI f=true) (he:e=.ret\/e=.normal) (hr:fn.results.toList=[r]) (h1:bY P st r=some x) (hn:(lX x).Nodup) (hy:Eg st x=some y):Dn P f fn (e,st)=some y:=by
 have h:jD P f fn st=some y:=by
  unfold jD;rw[hk,if_pos rfl];unfold Qm;rw[hr];simp only[rV,h1,cT,if_pos hn,hy]
 rcases he with rfl|rfl<;>exact h
def QF [Ext] {P:Program} {f:Nat} {fn:Func} {st:St} {e:Ex} {r1 r2:ResultVar} {x1 x2 y:AV} (hk:Ext.pI f=true) (he:e=.ret\/e=.normal) (hr:fn.results.toList=[r1,r2]) (h1:bY P st r1=some x1) (h2:bY P st r2=some x2)
 (hn:(lX (.eH [x1,x2])).Nodup) (hy:Eg st (.eH [x1,x2])=some y):Dn P f fn (e,st)=some y:=by
 have h:jD P f fn st=some y:=by
  unfold jD;rw[hk,if_pos rfl];unfold Qm;rw[hr];simp only[map_cons,map_nil,rV,h1,h2,cT,cK,aAo,if_pos hn,hy]
 rcases he with rfl|rfl<;>exact h
def IE {st:St} {s g e sz n:Nat} {cs:List AV} (h:st.heap s g=some (.row e sz n cs)) (hf:∀c∈cs,Flat c):sR st (.agg [.own s g])=some (.agg [.uniq e sz n cs]):=by
 simp only[sR,map_cons,map_nil,kX,if_neg (nK s g),h,if_pos hf,cK,aAo]
def M9 (st:St):sR st (.agg [.v (.slice none 0 0)])=some (.agg [.v (.slice none 0 0)]):=by
 simp only[sR,map_cons,map_nil,kX,if_pos (Flat.v _),cK,aAo]
def F5 (st:St) (x:Value):sR st (.v x)=some (.v x):=by simp only[sR,kX,if_pos (Flat.v x)]
def IF {st:St} {a b x y:AV} (h1:sR st a=some x) (h2:sR st b=some y):Eg st (.eH [a,b])=some (.eH [x,y]):=by
 simp only[Eg,map_cons,map_nil,h1,h2,cK,aAo]
def N0 {st:St} {cs:List AV} {x:AV} (h1:sR st (.agg cs)=some x):Eg st (.agg cs)=some x:=h1
def Nm (e sz n:Nat) (cs:List AV):¬Flat (.uniq e sz n cs):=by intro h;cases h
def N1 {e sz n:Nat} {cs:List AV} {st:St} {d:Nat}:iZ (.agg [.uniq e sz n cs]) st (some d)=some { dst:=some d,val:=.agg [.own d (st.aQ d)],new:=some (d,[.row e sz n cs])}:=by
 have hn:¬Flat (.agg [.uniq e sz n cs]):=by intro h;cases h with|agg _ h=>exact Nm e sz n cs (h _ (by simp))
 unfold iZ;rw[if_neg hn];rfl
def N2 {e sz n:Nat} {cs:List AV} {x:Value} {st:St} {d:Nat}:iZ (.eH [.agg [.uniq e sz n cs],.v x]) st (some d)=some { dst:=some d,val:=.eH [.agg [.own d (st.aQ d)],.v x],new:=some (d,[.row e sz n cs])}:=by
 have hn:¬Flat (.eH [.agg [.uniq e sz n cs],.v x]):=by
  intro h;cases h with
  | eH _ h =>
    have:=h (.agg [.uniq e sz n cs]) (by simp)
    cases this with
    | agg _ h=>exact Nm e sz n cs (h _ (by simp))
 unfold iZ;rw[if_neg hn];rfl
def aD2 {call:Nat->List AV->Option AV} {g:Nat} {args:List AV} {d e sz n:Nat} {cs:List AV} {st:St} (hf:∀x∈args,Flat x) (h:call g args=some (.agg [.uniq e sz n cs])):bH call g args st (some d)=some { dst:=some d,val:=.agg [.own d (st.aQ d)],new:=some (d,[.row e sz n cs])}:=by
 unfold bH;rw[if_pos hf,h];exact N1
def aLz {call:Nat->List AV->Option AV} {g:Nat} {xs:List AV} {d e sz n:Nat} {cs:List AV} {x:Value} {fl:Bool} {st:St} (h:call g xs=some (.eH [.agg [.uniq e sz n cs],.v x])) (hm:∀c∈cs,iE c):uT call g (some xs) fl st (some d)=some { dst:=some d,val:=.eH [.agg [.own d (st.aQ d)],.v x],new:=some (d,[.row e sz n cs])}:=by
 have XJ:Zr (.eH [.agg [.uniq e sz n cs],.v x]):=by
  intro y hy;rcases mem_cons.1 hy with rfl|hy
  ·intro c hc;simp at hc
   subst hc;exact hm
  ·simp at hy
   subst hy;exact .v _
 unfold uT;simp only[cF,h,XJ,or_true,if_true];exact N2
def aLA {call:Nat->List AV->Option AV} {g:Nat} {xs:List AV} {x y:Value} {fl:Bool} {st:St} {d:Option Nat} (h:call g xs=some (.eH [.agg [.v y],.v x])):uT call g (some xs) fl st d=some { dst:=d,val:=.eH [.agg [.v y],.v x]}:=by
 have hf:∀z∈[AV.agg [.v y],.v x],Flat z:=bB (.agg _ (cP (.v _))) (.v _)
 refine N3 h ?_ (.eH _ hf)
 intro z hz;rcases mem_cons.1 hz with rfl|hz
 ·intro c hc;simp at hc;subst hc;exact .v _
 ·simp at hz;subst hz;exact .v _
def F6 {z:Nat} {α:Type} (f:α->List AV) (hf:∀x,(f x).length=z):∀(l:List α) (i o:Nat) (hi:i<l.length),o<z->(l.flatMap f)[i * z+o]? = (f l[i])[o]?
 | [],i,o,hi,_=>by simp at hi
 | a :: l,0,o,_,ho=>by
   simp only[flatMap_cons,Nat.zero_mul,Nat.zero_add,getElem_cons_zero];rw[getElem?_append_left (by rw[hf];exact ho)]
 | a :: l,i+1,o,hi,ho=>by
   have ih:=F6 f hf l i o (by simpa using hi) ho
   simp only[flatMap_cons,getElem_cons_succ];rw[getElem?_append_right (by rw[hf,Nat.succ_mul];omega),hf,show (i+1) * z+o-z=i * z+o by rw[Nat.succ_mul];omega]
   exact ih
def F7 {z:Nat} {α:Type} (f:α->List AV) (hf:∀x,(f x).length=z) (o e:Nat) (xs:List AV) (hoe:o<=e) (he:e<=z):∀(l:List α) (i:Nat) (hi:i<l.length) (y:α),dP (f l[i]) o xs e=f y->dP (l.flatMap f) (i * z+o) xs (i * z+e)=(l.set i y).flatMap f
 | [],i,hi,_,_=>by simp at hi
 | a :: l,0,_,y,h=>by
   simp only[flatMap_cons,Nat.zero_mul,Nat.zero_add,set_cons_zero,getElem_cons_zero] at h ⊢;rw[<- h];unfold dP;rw[take_append_of_le_length (by rw[hf];omega),drop_append_of_le_length (by rw[hf];omega)]
   simp
 | a :: l,i+1,hi,y,h=>by
   have ih:=F7 f hf o e xs hoe he l i (by simpa using hi) y (by simpa using h)
   simp only[flatMap_cons,set_cons_succ];rw[<- ih];unfold dP;have h1:(i+1) * z+o=z+(i * z+o):=by rw[Nat.succ_mul];omega
   have h2:(i+1) * z+e=z+(i * z+e):=by rw[Nat.succ_mul];omega
   rw[h1,h2,take_append,drop_append,take_of_length_le (by rw[hf];omega),drop_of_length_le (by rw[hf];omega),hf,Nat.add_sub_cancel_left,Nat.add_sub_cancel_left]
   simp
def N4 {l:List Bool} {xs:List AV} (h:iS l xs xs):∀c∈xs,iE c:=by
 obtain⟨us,vs,rfl,_,_⟩:=Eh _ _ _ h
 intro c hc;obtain⟨x,_,rfl⟩:=mem_map.1 hc
 exact .v _
def AN (l:List Node):∀c∈bV l,iE c:=fun c hc=>by
 obtain⟨n,_,h⟩:=mem_flatMap.1 hc
 exact N4 (AO n n) c h
def N5 {l:List Node} {i:Int} (h0:0<=i) (h1:i<l.length) (o:Nat) (ho:o<240):(bV l)[i.toNat * 240+o]? = (fF (nd l i))[o]?:=by
 obtain⟨h,e⟩:=Jc h0 h1
 rw[e];exact F6 fF tX l i.toNat o h ho
def N6 {l:List Node} {i:Int} (h0:0<=i) (h1:i<l.length) {o e:Nat} {xs:List AV} (hoe:o<=e) (he:e<=240) {y:Node} (h:dP (fF (nd l i)) o xs e=fF y):dP (bV l) (i.toNat * 240+o) xs (i.toNat * 240+e)=bV (l.set i.toNat y):=by
 obtain⟨hi,e'⟩:=Jc h0 h1
 rw[e'] at h;exact F7 fF tX o e xs hoe he l i.toNat hi y h
def AP (n:Node) (s:Int):Node:={ n with status:=s }
def setAt (ns:List Node) (i s:Int):List Node:=ns.set i.toNat (AP (nd ns i) s)
def YK {l:List Node} {i s:Int} (h0:0<=i) (h1:i<l.length):dP (bV l) (i.toNat * 240+239) [.v (.int .i64 s)] (i.toNat * 240+240)=bV (setAt l i s) :=
 N6 h0 h1 (by decide) (by decide) (Jh (nd l i) _)
def YL {l:List Node} {i:Int} (h0:0<=i) (h1:i<l.length):(bV l)[i.toNat * 240+239]? = some (.v (.int .i64 (nd l i).status)):=by
 rw[N5 h0 h1 239 (by decide)]
 exact Hw (nd l i)
def En (ns:List Node) (i s:Int):(setAt ns i s).length=ns.length:=by simp[setAt]
def IG (to never:Int):List Int->List Node->Option (List Node)
 | [],ns=>some ns
 | i :: l,ns=>if (nd ns i).status=never then none else IG to never l (setAt ns i to)
def KW {to never:Int}:∀(l:List Int) (ns r:List Node),IG to never l ns=some r->r.length=ns.length
 | [],ns,r,h=>by simp only[IG,aAk] at h;rw[h]
 | i :: l,ns,r,h=>by
   simp only[IG] at h;split at h
   ·cases h
   ·rw[KW l _ r h,En]
def YM {l:List Node} (h:0<l.length):bV l≠[]:=by
 intro he;have:=congrArg List.length he
 rw[On] at this;simp only[length_nil] at this;omega
def aPu (l:List Node) (h0:0<l.length) (hn:(l.length:Int)<1000000):aG prog 192 [.sl l.length (bV l)]=some (.uniq 76 240 l.length (bV l)):=by
 rw[cL func192 rfl rfl];have gJ:=YM h0
 have ha:=fun s g=>Lj (e:=76) (sz:=240) (by_:=352) (s:=s) (g:=g) (n:=l.length) (cs:=bV l) (by simp) (by omega) (by unfold maxLen;omega)
 simp only[ZZ,seval,gJ,ha];exact uK rfl (by simp only[EV,seval];rfl) (by simp only[EV,seval]) (iU _)
def aPv (l:List Node) (h0:0<l.length) (hn:(l.length:Int)<1000000) (st:St) (d:Nat):bH (aG prog) 192 [.sl l.length (bV l)] st (some d)=some { dst:=some d,val:=.own d (st.aQ d),new:=some (d,[.row 76 240 l.length (bV l)])}:=jM (cP (.sl _ _ (iU l))) (aPu l h0 hn)
def aPw (ns:List Node) (h0:0<ns.length) (hn:(ns.length:Int)<1000000):aG prog 165 [.agg (cH ⟨ns⟩)]=some (.agg [.uniq 76 240 ns.length (bV ns)]):=by
 rw[cL func165 rfl rfl];have hK:=aPv ns h0 hn
 simp only[ZZ,seval,hK];refine AM rfl (.inl rfl) rfl (x:=.agg [.own 5 0]) (by simp only[bY,ZZ,seval]) (by simp[lX,jI,iB]) (N0 (IE (by simp only[EV,seval]) (iU _)))
def aPx (ns:List Node) (h0:0<ns.length) (hn:(ns.length:Int)<1000000) (st:St) (d:Nat):bH (aG prog) 165 [.agg (cH ⟨ns⟩)] st (some d)=some { dst:=some d,val:=.agg [.own d (st.aQ d)],new:=some (d,[.row 76 240 ns.length (bV ns)])}:=aD2 (cP (lL _)) (aPw ns h0 hn)
def aD3 {l:List Int} {k:Nat} (h:k<l.length):l.drop k=it l k :: l.drop (k+1):=by
 rw[drop_eq_getElem_cons h];simp[it,h]
def aLB (s g:Nat) (x:Value):(lX (.eH [.agg [.own s g],.v x])).Nodup:=by simp[lX,jI,iB]
def aLC (y x:Value):(lX (.eH [.agg [.v y],.v x])).Nodup:=by simp[lX,jI,iB]
def AQ (e:Int):AV:=.eH [.agg [.v (.slice none 0 0)],.v (.int .i64 e)]
def chS (o:Option (List Node)):AV :=
 match o with
 | none=>.eH [.agg [.v (.slice none 0 0)],.v (.bool false)]
 | some r=>.eH [.agg [.uniq 76 240 r.length (bV r)],.v (.bool true)]
def aLD (ns:List Node) (h0:0<ns.length) (hn:(ns.length:Int)<1000000) (l:List Int) (hl:(l.length:Int)<1000000) (hm:∀x∈l,0<=x/\x<ns.length) (to never:Int) :
 aG prog 247 [.agg (cH ⟨ns⟩),.sl l.length (aM l),.v (.int .i64 to),.v (.int .i64 never)]=some (chS (IG to never l ns)):=by
 rw[cL func247 rfl rfl];simp only[ZZ,seval,hn];refine jK (fun n st=>∃(k:Nat) (cur:List Node),(st.env 1=.sl l.length (aM l)/\st.env 2=.v (.int .i64 to)/\st.env 3=.v (.int .i64 never)/\st.env 8=.ptr 8 0 0/\st.heap 8 0=some (.cells [.v (.slice none 0 0)])/\st.env 10=.ptr 10 0 0/\st.heap 10 0=some (.cells [.own 14 0])/\st.heap 14 0=some (.row 76 240 cur.length (bV cur))/\st.env 11=.v (.int .i64 k))/\cur.length=ns.length/\IG to never l ns=IG to never (l.drop k) cur/\k<=l.length/\n=l.length-k)
  (fun e st=>(e=.ret/\IG to never l ns=none/\st.env 8=.ptr 8 0 0/\st.heap 8 0=some (.cells [.v (.slice none 0 0)])/\st.env 9=.v (.bool false))\/(e=.exit 0/\∃r,IG to never l ns=some r/\st.env 8=.ptr 8 0 0/\st.heap 8 0=some (.cells [.v (.slice none 0 0)])/\st.env 10=.ptr 10 0 0/\st.heap 10 0=some (.cells [.own 14 0])/\st.heap 14 0=some (.row 76 240 r.length (bV r)))) l.length ?step ?start ?rest
 case step =>
  rintro n st ⟨k,cur,hI,zO,hc,hk,Hu⟩
  by_cases aW:(k:Int)<l.length
  ·have q0:(0:Int)<=k:=by omega
   have hw:i64.wrap ((k:Int)+1)=((k+1:Nat):Int):=by rw[Ej _ (by omega) (by omega)];omega
   obtain⟨x0,x1⟩:=hm _ (Gu q0 aW)
   have x2:it l k<cur.length:=by omega
   rw[aD3 (by omega)] at hc
   simp only[IG] at hc;have hg:=YL x0 x2
   by_cases hs:(nd cur (it l k)).status=never
   ·rw[if_pos hs] at hc;have hb:((nd cur (it l k)).status == never)=true:=by simp[hs]
    apply oT (.ret)
    ·simp only[ZZ,seval,hI,aW,q0,x0,x2,hg,hb];rfl
    ·exact .inl ⟨rfl,hc,by simp only[EV,seval,hI],by simp only[EV,seval,hI],by simp only[EV,seval,hI]⟩
   ·rw[if_neg hs] at hc;have hb:((nd cur (it l k)).status == never)=false:=by simp[hs]
    have hu:=YK (s:=to) x0 x2
    have hle:(it l k).toNat * 240+239+1<=cur.length * 240:=by
     have:((it l k).toNat+1) * 240<=cur.length * 240:=Nat.mul_le_mul_right _ (by omega)
     omega
    have hle2:(it l k).toNat * 240+240<=cur.length * 240:=by omega
    apply oN (l.length-(k+1))
    ·simp only[ZZ,seval,hI,aW,q0,x0,x2,hg,hb,hu,hle,hle2,hw];rfl
    ·exact⟨k+1,setAt cur (it l k) to,by simp only[EV,seval,hI,En],by rw[En];exact zO,hc,by omega,rfl⟩
  ·obtain rfl:k=l.length:=by omega
   rw[drop_length] at hc;apply oT (.exit 0)
   ·simp only[ZZ,seval,hI,aW];rfl
   ·exact .inr ⟨rfl,cur,hc,by simp only[EV,seval,hI]⟩
 case start=>exact⟨0,ns,by simp only[EV,seval]<;>rfl,rfl,rfl,by omega,by omega⟩
 case rest =>
  rintro e st (⟨rfl,hc,hI⟩|⟨rfl,r,hc,hI⟩)
  ·rw[hc];simp only[ZZ,seval];exact QF rfl (.inl rfl) rfl (x1:=.agg [.v (.slice none 0 0)]) (x2:=.v (.bool false)) (by simp only[bY,ZZ,seval,hI]) (by simp only[bY,ZZ,seval,hI]) (aLC _ _) (IF (M9 _) (F5 _ _))
  ·rw[hc];simp only[ZZ,seval,hI];exact QF rfl (.inl rfl) rfl (x1:=.agg [.own 14 0]) (x2:=.v (.bool true)) (by simp only[bY,ZZ,seval,hI]) (by simp only[bY,ZZ,seval,hI]) (aLB _ _ _) (IF (IE (by simp only[EV,seval,hI]) (iU _)) (F5 _ _))
def KX {ns:List Node} (hu:fK ns) {c:Int} (c0:0<=c) (c1:c<ns.length):0<(path ns c).length:=length_pos_iff.2 fun h=>by
 have:=nH hu c0 c1
 rw[h] at this;cases this
def N7 {ns:List Node} (hu:fK ns) {c:Int} (c0:0<=c) (c1:c<ns.length):it (path ns c) ((path ns c).length-1:Int)=c:=by
 by_cases h:c=0
 ·subst h;rw[mG (by omega)]
  rfl
 ·rw[jL hu (by omega) c1]
  exact wF (by simp)
def c64 (ns:List Node) (hu:fK ns) (hn:(ns.length:Int)<1000000) (i:Int):aG prog 64 [.agg (cH ⟨ns⟩),.v (.int .i64 i)]=some (if As ns i ns.length=[] then .v (.slice none 0 0) else .uniq 3 1 (As ns i ns.length).length (aM (As ns i ns.length))):=by
 rw[cL func64 rfl rfl];have h41:=Qh ns hu hn
 simp only[ZZ,seval];refine jK (fun n st=>∃k:Nat,st.env 1=.v (.int .i64 i)/\st.env 2=.ptr 2 0 0/\st.heap 2 0=some (.cells (cH ⟨ns⟩))/\st.env 6=.v (.int .i64 k) /\
  ((As ns i k=[]/\st.env 5=.v (.slice none 0 0))\/(As ns i k≠[]/\∃g,st.env 5=.own 21 g/\g<st.aQ 21/\st.heap 21 g=some (.row 3 1 (As ns i k).length (aM (As ns i k)))))/\k<=ns.length/\n=ns.length-k)
  (fun e st=>e=.exit 0/\((As ns i ns.length=[]/\st.env 5=.v (.slice none 0 0))\/(As ns i ns.length≠[]/\∃g,st.env 5=.own 21 g/\g<st.aQ 21/\st.heap 21 g=some (.row 3 1 (As ns i ns.length).length (aM (As ns i ns.length)))))) ns.length ?step ?start ?rest
 case step =>
  rintro n st ⟨k,h1,h2,vP,h6,h5,hk,Hu⟩
  have hdl:=Zc ns i k
  have hdl':((As ns i k).length:Int)<1000000:=by omega
  by_cases aW:(k:Int)<ns.length
  ·have hw:i64.wrap ((k:Int)+1)=((k+1:Nat):Int):=by rw[Ej _ (by omega) (by omega)];omega
   cases ha:lW ns i k
   ·have hs:As ns i (k+1)=As ns i k:=by simp only[As,ha,Bool.false_eq_true,if_false]
    rcases h5 with ⟨hy,h5⟩|⟨hy,g,h5,hg,Bz⟩
    ·apply oN (ns.length-(k+1))
     ·simp only[ZZ,seval,h1,h2,vP,h6,h5,aW,hw,h41,ha];rfl
     ·exact⟨k+1,by simp only[EV,seval,h1],by simp only[EV,seval,h2],by simp only[EV,seval,vP],(by simp only[EV,seval]),.inl ⟨by rw[hs];exact hy,by simp only[EV,seval,h5]⟩,by omega,rfl⟩
    ·apply oN (ns.length-(k+1))
     ·simp only[ZZ,seval,h1,h2,vP,h6,h5,Bz,aW,hw,h41,ha];rfl
     ·exact⟨k+1,by simp only[EV,seval,h1],by simp only[EV,seval,h2],by simp only[EV,seval,vP],(by simp only[EV,seval]),.inr ⟨by rw[hs];exact hy,g,by simp only[EV,seval,h5],(by simp only[EV,seval]<;>omega),(by rw[hs];simp only[EV,seval,Bz])⟩,by omega,rfl⟩
   ·have hs:As ns i (k+1)=As ns i k++[(k:Int)]:=by simp only[As,ha,if_true]
    rcases h5 with ⟨hy,h5⟩|⟨hy,g,h5,hg,Bz⟩
    ·rw[hy] at hs;apply oN (ns.length-(k+1))
     ·simp only[ZZ,seval,h1,h2,vP,h6,h5,aW,hw,h41,ha];rfl
     ·exact⟨k+1,by simp only[EV,seval,h1],by simp only[EV,seval,h2],by simp only[EV,seval,vP],(by simp only[EV,seval]),.inr ⟨by rw[hs];simp,_,by simp only[EV,seval]<;>rfl,(by simp only[EV,seval]<;>omega),(by rw[hs];simp only[EV,seval]<;>rfl)⟩,by omega,rfl⟩
    ·apply oN (ns.length-(k+1))
     ·simp only[ZZ,seval,h1,h2,vP,h6,h5,Bz,hdl',aW,hw,h41,ha];rfl
     ·exact⟨k+1,by simp only[EV,seval,h1],by simp only[EV,seval,h2],by simp only[EV,seval,vP],(by simp only[EV,seval]),.inr ⟨by rw[hs];simp,_,by simp only[EV,seval]<;>rfl,(by simp only[EV,seval]<;>omega),(by rw[hs];simp only[EV,seval]<;>rfl)⟩,by omega,rfl⟩
  ·obtain rfl:k=ns.length:=by omega
   apply oT (.exit 0)
   ·simp only[ZZ,seval,h2,vP,h6,aW];rfl
   ·exact⟨rfl,by simpa only[EV,seval] using h5⟩
 case start=>exact⟨0,(by simp only[EV,seval]),(by simp only[EV,seval]),(by simp only[EV,seval]),(by simp only[EV,seval]),.inl ⟨rfl,(by simp only[EV,seval])⟩,by omega,rfl⟩
 case rest =>
  rintro e st ⟨rfl,⟨hy,h5⟩|⟨hy,g,h5,hg,Bz⟩⟩
  ·rw[if_pos hy];simp only[ZZ,seval,h5];exact bT rfl (by simp only[EV,seval]) (.v _)
  ·rw[if_neg hy];simp only[ZZ,seval,h5,Bz];exact uK rfl (by simp only[EV,seval];rfl) (by simp only[EV,seval,Bz]) (gG _)
def k64 (ns:List Node) (hu:fK ns) (hn:(ns.length:Int)<1000000) (i:Int) (h:As ns i ns.length≠[]) (st:St) (d:Nat):bH (aG prog) 64 [.agg (cH ⟨ns⟩),.v (.int .i64 i)] st (some d)=some { dst:=some d,val:=.own d (st.aQ d),new:=some (d,[.row 3 1 (As ns i ns.length).length (aM (As ns i ns.length))])}:=by
 have hc:=c64 ns hu hn i
 rw[if_neg h] at hc;exact jM (bB (lL _) (.v _)) hc
end Go.Ab.Tryz
namespace Go.Ab.Tryz
open Classical Go.Proofs Go.Ab
end Go.Ab.Tryz
namespace Go.Ab.Tryz
open Classical Go.Proofs Go.Ab
def aD4 (args:List AV) (st:St) (d:Option Nat):bH (aG prog) 247 args st d=uT (aG prog) 247 (cK (args.map (fS st))) (decide (∀x∈args,Flat x)) st d:=jY _ _ _ _ _
def N8:Flat (.agg [.v (.slice none 0 0)]):=.agg _ (cP (.v _))
def wG (e:Int):Flat (AQ e):=.eH _ (bB N8 (.v _))
def stA (o:Option (List Node)):AV :=
 match o with
 | none=>AQ 21
 | some r=>.eH [.agg (cH ⟨r⟩),.v (.int .i64 0)]
def QG (o:Option (List Node)):Flat (stA o):=by
 cases o with
 | none=>exact wG _
 | some r=>exact .eH _ (bB (lL _) (.v _))
def raO (ns:List Node) (i:Int):Option (List Node):=IG 1 2 (path ns i) ns
def coO (ns:List Node) (i:Int):Option (List Node):=IG 2 1 (As ns i ns.length) ns
def raV (ns:List Node) (i:Int):AV:=if 0<=i/\i<ns.length then stA (raO ns i) else AQ 10
def Y6 (ns:List Node) (i:Int):AV:=if 0<=i/\i<ns.length then stA (coO ns i) else AQ 10
def Ze {ns:List Node} (hu:fK ns) {i:Int}:∀x∈path ns i,0<=x/\x<ns.length:=fun x hx=>rI hu hx
def KY (ns:List Node) (i:Int):∀x∈As ns i ns.length,0<=x/\x<ns.length:=fun x hx=>((Qw ns i x _).1 hx).1
def aPA (ns:List Node) (hu:fK ns) (hn:(ns.length:Int)<1000000) (i:Int):aG prog 236 [.agg (cH ⟨ns⟩),.v (.int .i64 i)]=some (raV ns i):=by
 rw[cL func236 rfl rfl];unfold raV;by_cases hm:0<=i/\i<ns.length
 ·rw[if_pos hm];have hd:(decide (0<=i) && decide (i<ns.length))=true:=by simp[hm.1,hm.2]
  have h45:=k76 ns hu hn i hm.1 hm.2
  have hpl:=Cl hu i
  have hc:=aLD ns (by omega) hn (path ns i) (by omega) (Ze hu) 1 2
  unfold raO;cases ho:IG 1 2 (path ns i) ns with
  | none =>
    rw[ho] at hc;have hK:=fun (fl:Bool) (st:St) (d:Option Nat)=>aLA (fl:=fl) (st:=st) (d:=d) hc
    simp only[ZZ,seval,XI,hd,h45,aD4,hK,dR];exact dN rfl (by simp only[bY,ZZ,seval];rfl) (by simp only[bY,EV,seval]<;>rfl) (by simp only[EV,seval]<;>rfl) (by simp only[EV,seval]<;>rfl)
  | some r =>
    rw[ho] at hc;have hK:=fun (fl:Bool) (st:St) (d:Nat)=>aLz (fl:=fl) (st:=st) (d:=d) hc (AN r)
    simp only[ZZ,seval,XI,hd,h45,aD4,hK,dR];exact dN rfl (by simp only[bY,ZZ,seval];rfl) (by simp only[bY,EV,seval]<;>rfl) (by simp only[EV,seval]<;>rfl) (by simp only[EV,seval]<;>rfl)
 ·rw[if_neg hm];have hd:(decide (0<=i) && decide (i<ns.length))=false:=by rw[<- Bool.not_eq_true];simpa using hm
  simp only[ZZ,seval,XI,hd];exact dN rfl (by simp only[bY,ZZ,seval];rfl) (by simp only[bY,EV,seval]<;>rfl) (by simp only[EV,seval]<;>rfl) (by simp only[EV,seval]<;>rfl)
def aPB (ns:List Node) (hu:fK ns) (hn:(ns.length:Int)<1000000) (i:Int):aG prog 238 [.agg (cH ⟨ns⟩),.v (.int .i64 i)]=some (Y6 ns i):=by
 rw[cL func238 rfl rfl];unfold Y6;by_cases hm:0<=i/\i<ns.length
 ·rw[if_pos hm];have hd:(decide (0<=i) && decide (i<ns.length))=true:=by simp[hm.1,hm.2]
  have h36:=k64 ns hu hn i (YF hu hm.1 hm.2 _ hm.2)
  have hdl:=Zc ns i ns.length
  have hc:=aLD ns (by omega) hn (As ns i ns.length) (by omega) (KY ns i) 2 1
  unfold coO;cases ho:IG 2 1 (As ns i ns.length) ns with
  | none =>
    rw[ho] at hc;have hK:=fun (fl:Bool) (st:St) (d:Option Nat)=>aLA (fl:=fl) (st:=st) (d:=d) hc
    simp only[ZZ,seval,XI,hd,h36,aD4,hK,dR];exact dN rfl (by simp only[bY,ZZ,seval];rfl) (by simp only[bY,EV,seval]<;>rfl) (by simp only[EV,seval]<;>rfl) (by simp only[EV,seval]<;>rfl)
  | some r =>
    rw[ho] at hc;have hK:=fun (fl:Bool) (st:St) (d:Nat)=>aLz (fl:=fl) (st:=st) (d:=d) hc (AN r)
    simp only[ZZ,seval,XI,hd,h36,aD4,hK,dR];exact dN rfl (by simp only[bY,ZZ,seval];rfl) (by simp only[bY,EV,seval]<;>rfl) (by simp only[EV,seval]<;>rfl) (by simp only[EV,seval]<;>rfl)
 ·rw[if_neg hm];have hd:(decide (0<=i) && decide (i<ns.length))=false:=by rw[<- Bool.not_eq_true];simpa using hm
  simp only[ZZ,seval,XI,hd];exact dN rfl (by simp only[bY,ZZ,seval];rfl) (by simp only[bY,EV,seval]<;>rfl) (by simp only[EV,seval]<;>rfl) (by simp only[EV,seval]<;>rfl)
def QH (ns:List Node) (i:Int):Flat (raV ns i):=by unfold raV;split;exact QG _;exact wG _
def AR (ns:List Node) (i:Int):Flat (Y6 ns i):=by unfold Y6;split;exact QG _;exact wG _
def aLF (ns:List Node) (hu:fK ns) (hn:(ns.length:Int)<1000000) (i:Int):KC 236 [.agg (cH ⟨ns⟩),.v (.int .i64 i)] (raV ns i):=fun _ _=>bE (bB (lL _) (.v _)) (aPA ns hu hn i) (QH ns i)
def aLG (ns:List Node) (hu:fK ns) (hn:(ns.length:Int)<1000000) (i:Int):KC 238 [.agg (cH ⟨ns⟩),.v (.int .i64 i)] (Y6 ns i):=fun _ _=>bE (bB (lL _) (.v _)) (aPB ns hu hn i) (AR ns i)
def aPC (ns:List Node) (hn:(ns.length:Int)<1000000):aG prog 129 [.agg (cH ⟨ns⟩)]=some (.v (.int .i64 (FN ns))):=by
 rw[cL func129 rfl rfl];have hK:=aPs ns hn
 by_cases hv:Ok ns=0
 ·have v:=M8 hv
  have h0:=v.Ol
  have hq:(Ok ns != 0)=false:=by simp[hv]
  have hc:FN ns=if ∃i:Int,0<i/\i<ns.length/\stE ns i then 15 else 0:=if_pos hv
  simp only[ZZ,seval,hK,hq];refine jK (fun n st=>∃k:Nat,(st.env 1=.ptr 1 0 0/\st.heap 1 0=some (.cells (cH ⟨ns⟩))/\st.env 4=.v (.int .i64 k))/\(∀i:Int,0<i->i<k->¬stE ns i)/\1<=k/\k<=ns.length/\n=ns.length-k)
   (fun e st=>(e=.ret/\st.env 2=.v (.int .i64 (FN ns)))\/(e=.exit 0/\FN ns=0)) (ns.length-1) ?step ?start ?rest
  case step =>
   rintro n st ⟨k,hI,hj,hk1,hk,Hu⟩
   by_cases aW:(k:Int)<ns.length
   ·have hw:i64.wrap ((k:Int)+1)=((k+1:Nat):Int):=by rw[Ej _ (by omega) (by omega)];omega
    have q0:(0:Int)<=k:=by omega
    obtain⟨u0,u1⟩:=v.up (k:Int) (by omega) (by omega)
    have u2:(nd ns (k:Int)).up<ns.length:=by omega
    have aAp:¬stE ns (k:Int)->∀i:Int,0<i->i<((k+1:Nat):Int)->¬stE ns i:=fun h i i0 i1=>by
     by_cases hi:i<k
     ·exact hj i i0 hi
     ·rw[show i=(k:Int) by omega];exact h
    have hbad:stE ns (k:Int)->FN ns=15:=fun h=>by rw[hc,if_pos ⟨_,by omega,by omega,h⟩]
    by_cases hA:(nd ns (k:Int)).status=1/\(nd ns (nd ns (k:Int)).up).status≠1
    ·have h1:((nd ns (k:Int)).status == 1)=true:=by simp[hA.1]
     have h2:((nd ns (nd ns (k:Int)).up).status != 1)=true:=by simp[hA.2]
     apply oT (.ret)
     ·simp only[ZZ,seval,hI,aW,q0,u0,u2,h1,h2];rfl
     ·exact .inl ⟨rfl,by rw[hbad (.inl hA)];simp only[EV,seval]⟩
    ·by_cases hB:(nd ns (nd ns (k:Int)).up).status=2/\(nd ns (k:Int)).status≠2
     ·have h1:((nd ns (k:Int)).status == 1)=false:=by
       rw[beq_eq_false_iff_ne];intro h;exact hA ⟨h,by omega⟩
      have h3:((nd ns (nd ns (k:Int)).up).status == 2)=true:=by simp[hB.1]
      have h4:((nd ns (k:Int)).status != 2)=true:=by simp[hB.2]
      apply oT (.ret)
      ·simp only[ZZ,seval,hI,aW,q0,u0,u2,h1,h3,h4];rfl
      ·exact .inl ⟨rfl,by rw[hbad (.inr hB)];simp only[EV,seval]⟩
     ·have hno:¬stE ns (k:Int):=by rintro (h|h);exact hA h;exact hB h
      by_cases hs:(nd ns (k:Int)).status=1
      ·have hu:(nd ns (nd ns (k:Int)).up).status=1:=Decidable.of_not_not fun h=>hA ⟨hs,h⟩
       have h1:((nd ns (k:Int)).status == 1)=true:=by simp[hs]
       have h2:((nd ns (nd ns (k:Int)).up).status != 1)=false:=by simp[hu]
       have h3:((nd ns (nd ns (k:Int)).up).status == 2)=false:=by simp[hu]
       apply oN (ns.length-(k+1))
       ·simp only[ZZ,seval,hI,aW,q0,u0,u2,h1,h2,h3,hw];rfl
       ·exact⟨k+1,by simp only[EV,seval,hI],aAp hno,by omega,by omega,rfl⟩
      ·have h1:((nd ns (k:Int)).status == 1)=false:=by simp[hs]
       by_cases hu:(nd ns (nd ns (k:Int)).up).status=2
       ·have h3:((nd ns (nd ns (k:Int)).up).status == 2)=true:=by simp[hu]
        have h4:((nd ns (k:Int)).status != 2)=false:=by
         have:(nd ns (k:Int)).status=2:=Decidable.of_not_not fun h=>hB ⟨hu,h⟩
         simp[this]
        apply oN (ns.length-(k+1))
        ·simp only[ZZ,seval,hI,aW,q0,u0,u2,h1,h3,h4,hw];rfl
        ·exact⟨k+1,by simp only[EV,seval,hI],aAp hno,by omega,by omega,rfl⟩
       ·have h3:((nd ns (nd ns (k:Int)).up).status == 2)=false:=by simp[hu]
        apply oN (ns.length-(k+1))
        ·simp only[ZZ,seval,hI,aW,q0,u0,u2,h1,h3,hw];rfl
        ·exact⟨k+1,by simp only[EV,seval,hI],aAp hno,by omega,by omega,rfl⟩
   ·have hend:FN ns=0:=by
     rw[hc,if_neg];rintro⟨i,i0,i1,h⟩
     exact hj i i0 (by omega) h
    apply oT (.exit 0)
    ·simp only[ZZ,seval,hI,aW];rfl
    ·exact .inr ⟨rfl,hend⟩
  case start=>exact⟨1,by simp only[EV,seval]<;>rfl,fun i i0 i1=>by omega,by omega,by omega,by omega⟩
  case rest =>
   rintro e st (⟨rfl,h⟩|⟨rfl,h⟩)
   ·simp only[ZZ,seval];exact bT rfl h (.v _)
   ·simp only[ZZ,seval];exact bT rfl (by simp only[EV,seval,h]) (.v _)
 ·have hq:(Ok ns != 0)=true:=by simp[hv]
  have hc:FN ns=Ok ns:=if_neg hv
  simp only[ZZ,seval,hK,hq];exact bT rfl (by simp only[EV,seval,hc]) (.v _)
def aPD (ns:List Node) (hn:(ns.length:Int)<1000000):KC 129 [.agg (cH ⟨ns⟩)] (.v (.int .i64 (FN ns))):=fun _ _=>bE (cP (lL _)) (aPC ns hn) (.v _)
def N9 (ns:List Node) (hn:(ns.length:Int)<1000000) (i:Int):(∃e,raV ns i=.eH [.agg [.v (.slice none 0 0)],.v (.int .i64 e)])\/∃r:List Node,raV ns i=.eH [.agg (cH ⟨r⟩),.v (.int .i64 0)]/\(r.length:Int)<1000000:=by
 unfold raV;split
 ·cases h:raO ns i with
  | none=>exact .inl ⟨21,rfl⟩
  | some r=>exact .inr ⟨r,rfl,by rw[KW _ _ _ h];exact hn⟩
 ·exact .inl ⟨10,rfl⟩
def II (ns:List Node) (hn:(ns.length:Int)<1000000) (i:Int):(∃e,Y6 ns i=.eH [.agg [.v (.slice none 0 0)],.v (.int .i64 e)])\/∃r:List Node,Y6 ns i=.eH [.agg (cH ⟨r⟩),.v (.int .i64 0)]/\(r.length:Int)<1000000:=by
 unfold Y6;split
 ·cases h:coO ns i with
  | none=>exact .inl ⟨21,rfl⟩
  | some r=>exact .inr ⟨r,rfl,by rw[KW _ _ _ h];exact hn⟩
 ·exact .inl ⟨10,rfl⟩
def AS (ns:List Node) (x:Int):cC:=(nd ns x).block.gP
def At (ns:List Node) (p:List Int):Nat->Option Nat
 | 0=>none
 | n+1=>if AS ns (it p ((p.length-(n+1):Nat):Int))=cO then At ns p n else some (p.length-(n+1))
def Ji (ns:List Node) (p:List Int) (h:cC):Nat->Option Nat
 | 0=>none
 | n+1=>if AS ns (it p (n:Int))=h then some n else Ji ns p h n
def pR (ns:List Node) (i:Int) (h:cC):Int × Int :=
 if path ns i=[] then (-1,-1)
 else if h=cO then
  match At ns (path ns i) (path ns i).length with
  | none=>(-1,i)
  | some k=>(if k=0 then -1 else it (path ns i) ((k:Int)-1),it (path ns i) k)
 else
  match Ji ns (path ns i) h ((path ns i).length-1) with
  | none=>(-1,i)
  | some k=>(it (path ns i) k,it (path ns i) ((k:Int)+1))
def reA (ns:List Node) (i:Int) (h:cC):AV:=.eH [.v (.int .i64 (pR ns i h).1),.v (.int .i64 (pR ns i h).2)]
def IJ {ns:List Node} {p:List Int}:∀(n k:Nat),n<=p.length->At ns p n=some k->k<p.length
 | 0,k,_,h=>by simp[At] at h
 | n+1,k,hn,h=>by
   simp only[At] at h;split at h
   ·exact IJ n k (by omega) h
   ·simp at h;omega
def QI {ns:List Node} {p:List Int} {h:cC}:∀(n k:Nat),Ji ns p h n=some k->k<n
 | 0,k,hk=>by simp[Ji] at hk
 | n+1,k,hk=>by
   simp only[Ji] at hk;split at hk
   ·simp at hk;omega
   ·have:=QI n k hk;omega
def YN {ns:List Node} {i:Int} {h:cC} (hp:path ns i=[]):pR ns i h=(-1,-1):=if_pos hp
def aHC {ns:List Node} {i j:Int} (i0:0<=i) (i1:i<ns.length) (j0:0<=j) (y:Node):nd (ns.set i.toNat y) j=if j=i then y else nd ns j:=by
 unfold nd;rw[getD_eq_getElem?_getD,getD_eq_getElem?_getD];by_cases h:j=i
 ·subst h;have:j.toNat<ns.length:=by omega
  simp[this]
 ·rw[if_neg h,getElem?_set_ne (by omega)]
def AT {to never:Int} (gJ:to≠never):∀(l:List Int) (ns r:List Node),(∀x∈l,0<=x/\x<ns.length)->IG to never l ns=some r ->
 (∀x∈l,(nd ns x).status≠never)/\r.length=ns.length/\∀j:Int,0<=j->j<ns.length->nd r j=if j∈l then AP (nd ns j) to else nd ns j
 | [],ns,r,_,h=>by
   simp only[IG,aAk] at h;subst h;exact⟨by simp,rfl,by simp⟩
 | i :: l,ns,r,hl,h=>by
   simp only[IG] at h;split at h
   ·cases h
   ·rename_i hs;obtain⟨i0,i1⟩:=hl i (by simp)
    obtain⟨h1,h2,h3⟩:=AT gJ l (setAt ns i to) r (fun x hx=>by rw[En];exact hl x (by simp[hx])) h
    rw[En] at h2 h3;have hnd:∀j:Int,0<=j->nd (setAt ns i to) j=if j=i then AP (nd ns i) to else nd ns j:=fun j j0=>aHC i0 i1 j0 _
    refine⟨fun x hx=>?_,h2,fun j j0 j1=>?_⟩
    ·rcases mem_cons.1 hx with rfl|hx
     ·exact hs
     ·by_cases hxi:x=i
      ·subst hxi;exact hs
      ·have:=h1 x hx
       rw[hnd x (hl x (by simp[hx])).1,if_neg hxi] at this
       exact this
    ·rw[h3 j j0 j1,hnd j j0];by_cases hji:j=i
     ·subst hji;simp only[if_true,mem_cons,true_or];split<;>rfl
     ·simp[hji]
structure Dp (a b:List Node):Prop where
 len:a.length=b.length
 up:∀j:Int,0<=j->j<a.length->(nd a j).up=(nd b j).up
def Dp.aLI {a b:List Node} (h:Dp a b) (hu:fK a):∀(k:Nat) (i:Int),i.toNat=k->0<=i->i<a.length->path a i=path b i:=by
 have hub:fK b:=fun i i0 i1=>by rw[<- h.up i (by omega) (by rw[h.len];exact i1)];exact hu i i0 (by rw[h.len];exact i1)
 intro k;induction k using Nat.strongRecOn with
 | _ k ih =>
   intro i hk i0 i1;by_cases hi:i=0
   ·subst hi;rw[mG (by omega),mG (by rw[<- h.len];omega)]
   ·obtain⟨u0,u1⟩:=hu i (by omega) i1
    rw[jL hu (by omega) i1,jL hub (by omega) (by rw[<- h.len];exact i1),<- h.up i i0 i1,ih _ (by omega) _ rfl u0 (by omega)]
def Dp.aLJ {a b:List Node} (h:Dp a b) (hu:fK a) (i:Int):path a i=path b i:=by
 by_cases hi:0<=i/\i<a.length
 ·exact h.aLI hu _ i rfl hi.1 hi.2
 ·rw[tV hi,tV (by rw[<- h.len];exact hi)]
def Dp.aPG {a b:List Node} (h:Dp a b) (hu:fK a) (i j:Int):lW a i j=lW b i j:=by
 unfold lW;rw[h.aLJ hu]
def Dp.aLK {a b:List Node} (h:Dp a b) (hu:fK a):fK b:=fun i i0 i1=>by rw[<- h.up i (by omega) (by rw[h.len];exact i1)];exact hu i i0 (by rw[h.len];exact i1)
structure Y7 (ns r:List Node) (l:List Int) (to:Int):Prop where
 len:r.length=ns.length
 at_:∀j:Int,0<=j->j<ns.length->nd r j=if j∈l then AP (nd ns j) to else nd ns j
def Y7.su {ns r:List Node} {l:List Int} {to:Int} (h:Y7 ns r l to):Dp ns r where
 len:=h.len.symm
 up:=fun j j0 j1=>by rw[h.at_ j j0 j1];split<;>rfl
def Y7.block {ns r:List Node} {l:List Int} {to:Int} (h:Y7 ns r l to) {j:Int} (j0:0<=j) (j1:j<ns.length):(nd r j).block=(nd ns j).block:=by
 rw[h.at_ j j0 j1];split<;>rfl
def Y7.upE {ns r:List Node} {l:List Int} {to:Int} (h:Y7 ns r l to) {j:Int} (j0:0<=j) (j1:j<ns.length):(nd r j).up=(nd ns j).up:=by
 rw[h.at_ j j0 j1];split<;>rfl
def Y7.st {ns r:List Node} {l:List Int} {to:Int} (h:Y7 ns r l to) {j:Int} (j0:0<=j) (j1:j<ns.length):(nd r j).status=if j∈l then to else (nd ns j).status:=by
 rw[h.at_ j j0 j1];split<;>rfl
def Y7.Ca {ns r:List Node} {l:List Int} {to:Int} (h:Y7 ns r l to) (v:Tx ns) (ht:Ub to=true):Tx r where
 Ol:=by rw[h.len];exact v.Ol
 aDV:=by rw[h.len];exact v.aDV
 Ww:=by rw[h.upE (by omega) (by have:=v.Ol;omega)];exact v.Ww
 up:=h.su.aLK v.up
 par:=fun i i0 i1=>by
  rw[h.len] at i1;obtain⟨u0,u1⟩:=v.up i i0 i1
  rw[h.upE (by omega) i1,h.block (by omega) i1,h.block u0 (by omega)]
  exact v.par i i0 i1
 slot:=fun i i0 i1=>by
  rw[h.len] at i1;obtain⟨u0,u1⟩:=v.up i i0 i1
  rw[h.upE (by omega) i1,h.block (by omega) i1,h.block u0 (by omega)]
  exact v.slot i i0 i1
 roots:=fun i j i0 hij j1=>by
  rw[h.len] at j1;rw[h.block i0 (by omega),h.block (by omega) j1]
  exact v.roots i j i0 hij j1
 st:=fun i i0 i1=>by
  rw[h.len] at i1;rw[h.st i0 i1];split
  ·exact ht
  ·exact v.st i i0 i1
structure YO (ns r:List Node) (i:Int):Prop where
 c:Y7 ns r (path ns i) 1
 ok:∀x∈path ns i,(nd ns x).status≠2
def IK {ns r:List Node} (hu:fK ns) {i:Int} (h:raO ns i=some r):YO ns r i:=by
 obtain⟨h1,h2,h3⟩:=AT (by decide) _ _ _ (Ze hu) h
 exact⟨⟨h2,h3⟩,h1⟩
structure Ui (ns r:List Node) (i:Int):Prop where
 c:Y7 ns r (As ns i ns.length) 2
 ok:∀x∈As ns i ns.length,(nd ns x).status≠1
def KZ {ns r:List Node} {i:Int} (h:coO ns i=some r):Ui ns r i:=by
 obtain⟨h1,h2,h3⟩:=AT (by decide) _ _ _ (KY ns i) h
 exact⟨⟨h2,h3⟩,h1⟩
def QJ {ns:List Node} (hu:fK ns) {i j:Int} (hj:j∈path ns i) (j0:0<j):(nd ns j).up∈path ns i:=by
 have hr:=rI hu hj
 have h1:lW ns j i=true:=decide_eq_true hj
 obtain⟨u0,u1⟩:=hu j j0 hr.2
 have h2:lW ns (nd ns j).up j=true:=by
  unfold lW;rw[jL hu j0 hr.2];exact decide_eq_true (mem_append_left _ (nH hu u0 (by omega)))
 exact of_decide_eq_true (IA hu _ _ _ _ rfl h2 h1)
def YO.FH {ns r:List Node} {i:Int} (h:YO ns r i) (v:Tx ns) (c:QA ns):QA r:=fun j j0 j1=>by
 rw[h.c.len] at j1;obtain⟨u0,u1⟩:=v.up j j0 j1
 rw[h.c.upE (by omega) j1,h.c.st (by omega) j1,h.c.st u0 (by omega)]
 obtain⟨c1,c2⟩:=c j j0 j1
 by_cases hj:j∈path ns i
 ·rw[if_pos hj,if_pos (QJ v.up hj j0)];exact⟨fun _=>rfl,by omega⟩
 ·rw[if_neg hj];by_cases zM:(nd ns j).up∈path ns i
  ·rw[if_pos zM];exact⟨fun _=>rfl,by omega⟩
  ·rw[if_neg zM];exact⟨c1,c2⟩
def aAq {ns:List Node} (hu:fK ns) {i j:Int} (j0:0<j) (j1:j<ns.length) (h:(nd ns j).up∈As ns i ns.length):j∈As ns i ns.length:=by
 obtain⟨_,h2⟩:=(Qw ns i _ _).1 h
 refine (Qw ns i j _).2 ⟨⟨by omega,j1⟩, ?_⟩
 obtain⟨u0,u1⟩:=hu j j0 j1
 have h3:lW ns (nd ns j).up j=true:=by
  unfold lW;rw[jL hu j0 j1];exact decide_eq_true (mem_append_left _ (nH hu u0 (by omega)))
 exact IA hu _ _ _ _ rfl h2 h3
def Ui.FH {ns r:List Node} {i:Int} (h:Ui ns r i) (v:Tx ns) (c:QA ns):QA r:=fun j j0 j1=>by
 rw[h.c.len] at j1;obtain⟨u0,u1⟩:=v.up j j0 j1
 rw[h.c.upE (by omega) j1,h.c.st (by omega) j1,h.c.st u0 (by omega)]
 obtain⟨c1,c2⟩:=c j j0 j1
 by_cases hj:j∈As ns i ns.length
 ·rw[if_pos hj];exact⟨by omega,fun _=>rfl⟩
 ·rw[if_neg hj,if_neg (fun zM=>hj (aAq v.up j0 j1 zM))]
  exact⟨c1,c2⟩
def IL {ns:List Node} (hu:fK ns):∀(n:Nat) (c:Int),c.toNat=n->0<=c->c<ns.length->∀k:Int,1<=k->k<(path ns c).length->(nd ns (it (path ns c) k)).up=it (path ns c) (k-1):=by
 intro n;induction n using Nat.strongRecOn with
 | _ n ih =>
   intro c hc c0 c1 k k0 k1;by_cases h:c=0
   ·subst h;rw[mG (by omega)] at k1
    simp at k1
    omega
   ·obtain⟨u0,u1⟩:=hu c (by omega) c1
    rw[jL hu (by omega) c1] at k1 ⊢
    simp at k1
    by_cases hk:k=(path ns (nd ns c).up).length
    ·rw[wF hk,kY (by omega) (by omega),hk,N7 hu u0 (by omega)]
    ·rw[kY (by omega) (by omega),kY (by omega) (by omega)]
     exact ih (nd ns c).up.toNat (by omega) _ rfl u0 (by omega) k k0 (by omega)
def aAr {ns:List Node} (hu:fK ns):∀(n:Nat) (c:Int),c.toNat=n->0<=c->c<ns.length->it (path ns c) 0=0:=by
 intro n;induction n using Nat.strongRecOn with
 | _ n ih =>
   intro c hc c0 c1;by_cases h:c=0
   ·subst h;rw[mG (by omega)];rfl
   ·obtain⟨u0,u1⟩:=hu c (by omega) c1
    have:=KX hu u0 (by omega)
    rw[jL hu (by omega) c1,kY (Int.le_refl _) (by omega)]
    exact ih _ (by omega) _ rfl u0 (by omega)
def aPH (ns:List Node) (hu:fK ns) (hr:(nd ns 0).up=-1) (hn:(ns.length:Int)<1000000) (i:Int) (h:cC):aG prog 237 [.agg (cH ⟨ns⟩),.v (.int .i64 i),.agg (bC h)]=some (reA ns i h):=by
 rw[cL func237 rfl rfl];unfold reA;by_cases hm:0<=i/\i<ns.length
 ·have h45:=k76 ns hu hn i hm.1 hm.2
  have hpl:=Cl hu i
  have hp0:=KX hu hm.1 hm.2
  have hin:=Ze hu (i:=i)
  have hpe:path ns i≠[]:=by intro h;rw[h] at hp0;simp at hp0
  have hq:(((path ns i).length:Int) == 0)=false:=by simp[hpe]
  have zM:=fun k h h'=>IL hu _ i rfl hm.1 hm.2 k h h'
  have hi0:=aAr hu _ i rfl hm.1 hm.2
  unfold pR;rw[if_neg hpe];generalize path ns i=p at h45 hpl hp0 hin hq zM hi0
  by_cases hz:h=cO
  ·have hd:decide (h=cO)=true:=decide_eq_true hz
   rw[if_pos hz];simp only[ZZ,seval,h45,hq,hd];refine jK (fun n st=>∃k:Nat,(st.env 1=.v (.int .i64 i)/\st.env 3=.ptr 3 0 0/\st.heap 3 0=some (.cells (cH ⟨ns⟩))/\st.env 8=.own 13 0/\st.heap 13 0=some (.row 3 1 p.length (aM p))/\st.env 9=.v (.int .i64 k))/\At ns p p.length=At ns p (p.length-k)/\k<=p.length/\n=p.length-k)
    (fun e st=>(e=.ret/\∃k,At ns p p.length=some k/\st.env 6=.v (.int .i64 (if k=0 then -1 else it p ((k:Int)-1)))/\st.env 7=.v (.int .i64 (it p k)))\/(e=.exit 0/\At ns p p.length=none/\st.env 1=.v (.int .i64 i))) p.length ?step ?start ?rest
   case step =>
    rintro n st ⟨k,hI,hf,hk,Hu⟩
    by_cases aW:(k:Int)<p.length
    ·have q0:(0:Int)<=k:=by omega
     have hw:i64.wrap ((k:Int)+1)=((k+1:Nat):Int):=by rw[Ej _ (by omega) (by omega)];omega
     obtain⟨x0,x1⟩:=hin _ (Gu q0 aW)
     obtain⟨m,XZ⟩:∃m,p.length-k=m+1:=⟨p.length-k-1,by omega⟩
     rw[XZ] at hf;simp only[At] at hf;rw[show p.length-(m+1)=k by omega] at hf
     by_cases hpz:AS ns (it p k)=cO
     ·rw[if_pos hpz] at hf;have hd2:decide ((nd ns (it p k)).block.gP=cO)=true:=decide_eq_true hpz
      apply oN (p.length-(k+1))
      ·simp only[ZZ,seval,hI,aW,q0,x0,x1,hd2,hw];rfl
      ·exact⟨k+1,by simp only[EV,seval,hI],by rw[hf,show p.length-(k+1)=m by omega],by omega,rfl⟩
     ·rw[if_neg hpz] at hf;have hd2:decide ((nd ns (it p k)).block.gP=cO)=false:=decide_eq_false hpz
      have hupk:(nd ns (it p k)).up=if k=0 then -1 else it p ((k:Int)-1):=by
       by_cases rC:k=0
       ·rw[if_pos rC,show ((k:Int))=0 by omega,hi0,hr]
       ·rw[if_neg rC,zM k (by omega) aW]
      apply oT (.ret)
      ·simp only[ZZ,seval,hI,aW,q0,x0,x1,hd2];rfl
      ·exact .inl ⟨rfl,k,hf,by rw[<- hupk];simp only[EV,seval],by simp only[EV,seval]⟩
    ·obtain rfl:k=p.length:=by omega
     rw[Nat.sub_self] at hf;apply oT (.exit 0)
     ·simp only[ZZ,seval,hI,aW];rfl
     ·exact .inr ⟨rfl,hf,by simp only[EV,seval,hI]⟩
   case start=>exact⟨0,by simp only[EV,seval]<;>rfl,rfl,by omega,rfl⟩
   case rest =>
    rintro e st (⟨rfl,k,hf,h6,h7⟩|⟨rfl,hf,h1⟩)
    ·rw[hf];simp only[ZZ,seval];exact dN rfl (by simp only[bY,EV,seval,h6]<;>rfl) (by simp only[bY,EV,seval,h7]<;>rfl) (by simp only[EV,seval]<;>rfl) (by simp only[EV,seval]<;>rfl)
    ·rw[hf];simp only[ZZ,seval,h1];exact dN rfl (by simp only[bY,EV,seval]<;>rfl) (by simp only[bY,EV,seval]<;>rfl) (by simp only[EV,seval]<;>rfl) (by simp only[EV,seval]<;>rfl)
  ·have hd:decide (h=cO)=false:=decide_eq_false hz
   have hw0:i64.wrap ((p.length:Int)-2)=(p.length:Int)-2:=Ej _ (by omega) (by omega)
   rw[if_neg hz];simp only[ZZ,seval,h45,hq,hd,hw0];refine jK (fun n st=>∃m:Nat,(st.env 1=.v (.int .i64 i)/\st.env 3=.ptr 3 0 0/\st.heap 3 0=some (.cells (cH ⟨ns⟩))/\st.env 5=.ptr 5 0 0/\st.heap 5 0=some (.cells (bC h))/\st.env 8=.own 13 0/\st.heap 13 0=some (.row 3 1 p.length (aM p))/\st.env 10=.v (.int .i64 ((m:Int)-1)))/\Ji ns p h (p.length-1)=Ji ns p h m/\m<=p.length-1/\n=m)
    (fun e st=>(e=.ret/\∃k,Ji ns p h (p.length-1)=some k/\st.env 6=.v (.int .i64 (it p k))/\st.env 7=.v (.int .i64 (it p ((k:Int)+1))))\/(e=.exit 2/\Ji ns p h (p.length-1)=none/\st.env 1=.v (.int .i64 i))) (p.length-1) ?step ?start ?rest
   case step =>
    rintro n st ⟨m,hI,hf,XZ,Hu⟩
    by_cases aW:(0:Int)<=(m:Int)-1
    ·obtain⟨k,rfl⟩:∃k,m=k+1:=⟨m-1,by omega⟩
     have e1:((k+1:Nat):Int)-1=k:=by omega
     rw[e1] at hI aW;have k1:(k:Int)<p.length:=by omega
     have hw:i64.wrap ((k:Int)-1)=(k:Int)-1:=Ej _ (by omega) (by omega)
     obtain⟨x0,x1⟩:=hin _ (Gu aW k1)
     simp only[Ji] at hf;by_cases hpz:AS ns (it p k)=h
     ·rw[if_pos hpz] at hf;have hd2:decide ((nd ns (it p k)).block.gP=h)=true:=decide_eq_true hpz
      have XK:i64.wrap ((k:Int)+1)=(k:Int)+1:=Ej _ (by omega) (by omega)
      have r0:(0:Int)<=(k:Int)+1:=by omega
      have r1:(k:Int)+1<p.length:=by omega
      apply oT (.ret)
      ·simp only[ZZ,seval,hI,aW,k1,x0,x1,hd2,XK,r0,r1];rfl
      ·exact .inl ⟨rfl,k,hf,by simp only[EV,seval],by simp only[EV,seval]⟩
     ·rw[if_neg hpz] at hf;have hd2:decide ((nd ns (it p k)).block.gP=h)=false:=decide_eq_false hpz
      apply oN (k)
      ·simp only[ZZ,seval,hI,aW,k1,x0,x1,hd2,hw];rfl
      ·exact⟨k,by simp only[EV,seval,hI],hf,by omega,rfl⟩
    ·obtain rfl:m=0:=by omega
     apply oT (.exit 2)
     ·simp only[ZZ,seval,hI,aW];rfl
     ·exact .inr ⟨rfl,hf,by simp only[EV,seval,hI]⟩
   case start =>
    have hs:(p.length:Int)-2=((p.length-1:Nat):Int)-1:=by omega
    exact⟨p.length-1,by simp only[EV,seval,hs],rfl,by omega,rfl⟩
   case rest =>
    rintro e st (⟨rfl,k,hf,h6,h7⟩|⟨rfl,hf,h1⟩)
    ·rw[hf];simp only[ZZ,seval];exact dN rfl (by simp only[bY,EV,seval,h6]<;>rfl) (by simp only[bY,EV,seval,h7]<;>rfl) (by simp only[EV,seval]<;>rfl) (by simp only[EV,seval]<;>rfl)
    ·rw[hf];simp only[ZZ,seval,h1];exact dN rfl (by simp only[bY,EV,seval]<;>rfl) (by simp only[bY,EV,seval]<;>rfl) (by simp only[EV,seval]<;>rfl) (by simp only[EV,seval]<;>rfl)
 ·rw[YN (tV hm)];have h45:=M3 ns i hm
  simp only[ZZ,seval,h45];exact dN rfl (by simp only[bY,EV,seval]<;>rfl) (by simp only[bY,EV,seval]<;>rfl) (by simp only[EV,seval]<;>rfl) (by simp only[EV,seval]<;>rfl)
def aAs (ns:List Node) (i:Int) (h:cC):Flat (reA ns i h):=.eH _ (bB (.v _) (.v _))
def aPI (ns:List Node) (hu:fK ns) (hr:(nd ns 0).up=-1) (hn:(ns.length:Int)<1000000) (i:Int) (h:cC):KC 237 [.agg (cH ⟨ns⟩),.v (.int .i64 i),.agg (bC h)] (.eH [.v (.int .i64 (pR ns i h).1),.v (.int .i64 (pR ns i h).2)]):=fun _ _=>bE (mM (lL _) (.v _) (rH _)) (aPH ns hu hr hn i h) (aAs ns i h)
def YP {ns:List Node} (hu:fK ns) (hr:(nd ns 0).up=-1) {i:Int} (i0:0<=i) (i1:i<ns.length) (h:cC):(pR ns i h).2∈path ns i/\((pR ns i h).1<0\/((pR ns i h).1∈path ns i/\(nd ns (pR ns i h).2).up=(pR ns i h).1)):=by
 have hp0:=KX hu i0 i1
 have hpe:path ns i≠[]:=by intro h;rw[h] at hp0;simp at hp0
 have Wv:=nH hu i0 i1
 have zM:=fun k h h'=>IL hu _ i rfl i0 i1 k h h'
 unfold pR;rw[if_neg hpe];by_cases hz:h=cO
 ·rw[if_pos hz];cases hf:At ns (path ns i) (path ns i).length with
  | none=>exact⟨Wv,.inl (by simp)⟩
  | some k =>
    have hk:=IJ _ _ (Nat.le_refl _) hf
    simp only
    refine⟨Gu (by omega) (by omega), ?_⟩
    by_cases rC:k=0
    ·rw[if_pos rC];exact .inl (by omega)
    ·rw[if_neg rC];exact .inr ⟨Gu (by omega) (by omega),zM k (by omega) (by omega)⟩
 ·rw[if_neg hz];cases hf:Ji ns (path ns i) h ((path ns i).length-1) with
  | none=>exact⟨Wv,.inl (by simp)⟩
  | some k =>
    have hk:=QI _ _ hf
    simp only
    refine⟨Gu (by omega) (by omega),.inr ⟨Gu (by omega) (by omega), ?_⟩⟩
    have:=zM ((k:Int)+1) (by omega) (by omega)
    rw[this];congr 1
    omega
def AU (kv:AV) (l:List Int):Prop:=kv=.sl l.length (aM l)\/(l=[]/\kv=.v (.slice none 0 0))
def AU.view {kv:AV} {l:List Int} (h:AU kv l) (st:St):aV st kv=some (l.length,aM l):=by
 rcases h with rfl|⟨rfl,rfl⟩<;>rfl
def AU.idx {kv:AV} {l:List Int} (h:AU kv l) (st:St) {k:IntKind} {i:Int} (h0:0<=i) (h1:i<l.length):bI prog st 22 kv (.v (.int k i))=some (.ip (rK (it l i)) 0):=by
 rcases h with rfl|⟨rfl,rfl⟩
 ·exact aGC st h0 h1
 ·simp at h1;omega
def AU.flat {kv:AV} {l:List Int} (h:AU kv l):Flat kv:=by
 rcases h with rfl|⟨rfl,rfl⟩
 ·exact Ud l
 ·exact .v _
def IM (ns:List Node) (c:Int) (l:List Int):Prop:=∃k∈l,lW ns c k=true
def aAt (ns:List Node) (i:Int) (h:cC) (l:List Int):AV :=
 if IM ns (pR ns i h).2 l then AQ 21
 else if 0<=(pR ns i h).1 then
  match raO ns (pR ns i h).1 with
  | none=>AQ 21
  | some r=>Y6 r (pR ns i h).2
 else Y6 ns (pR ns i h).2
def YQ (ns:List Node) (i:Int) (v:gV) (l:List Int):AV :=
 if ¬(0<=i/\i<ns.length) then AQ 10
 else if v.kind=1 then raV ns i
 else if v.kind=2 then aAt ns i v.dS l
 else if v.kind=3\/v.kind=4 then .eH [.agg (cH ⟨ns⟩),.v (.int .i64 0)]
 else AQ 2
def O0 (ns:List Node) (i:Int) (h:cC) (l:List Int):Flat (aAt ns i h l):=by
 unfold aAt;split
 ·exact wG _
 ·split
  ·split
   ·exact wG _
   ·exact AR _ _
  ·exact AR _ _
def O1 (ns:List Node) (i:Int) (v:gV) (l:List Int):Flat (YQ ns i v l):=by
 unfold YQ;split
 ·exact wG _
 ·split
  ·exact QH _ _
  ·split
   ·exact O0 _ _ _ _
   ·split
    ·exact .eH _ (bB (lL _) (.v _))
    ·exact wG _
def aPJ (ns:List Node) (hu:fK ns) (hr:(nd ns 0).up=-1) (hn:(ns.length:Int)<1000000) (i:Int) (v:gV) (l:List Int) (hl:(l.length:Int)<1000000) {kv:AV} (hkv:AU kv l) :
 aG prog 222 [.agg (cH ⟨ns⟩),.v (.int .i64 i),.agg (dK v),kv]=some (YQ ns i v l):=by
 rw[cL func222 rfl (by rcases hkv with rfl|⟨rfl,rfl⟩<;>rfl)]
 have h86:=XI ns i
 unfold YQ;by_cases hm:0<=i/\i<ns.length
 ·obtain⟨i0,i1⟩:=hm
  have hd:(decide (0<=i) && decide (i<(ns.length:Int)))=true:=by simp[i0,i1]
  rw[hd] at h86;rw[if_neg (by simp[i0,i1])]
  by_cases h1:v.kind=1
  ·rw[if_pos h1];have b1:(v.kind == 1)=true:=by simp[h1]
   have h96:=aLF ns hu hn i
   rcases N9 ns hn i with ⟨e,he⟩|⟨q,he,_⟩
   all_goals
    rw[he] at h96;rw[he];simp only[ZZ,seval,h86,b1,h96,dR];exact dN rfl (by simp only[bY,ZZ,seval];rfl) (by simp only[bY,EV,seval]<;>rfl) (by simp only[EV,seval]<;>rfl) (by simp only[EV,seval]<;>rfl)
  ·rw[if_neg h1];have b1:(v.kind == 1)=false:=by simp[h1]
   by_cases h2:v.kind=2
   ·rw[if_pos h2];have b2:(v.kind == 2)=true:=by simp[h2]
    have b3:(v.kind == 3)=false:=by simp[h2]
    have b4:(v.kind == 4)=false:=by simp[h2]
    have hRe:=aPI ns hu hr hn i v.dS
    have hfact:=YP hu hr i0 i1 v.dS
    have hv:=hkv.view
    have F9:=fun st (k:IntKind) (i:Int) h0 h1=>hkv.idx st (k:=k) (i:=i) h0 h1
    have h46:=Qh ns hu hn
    unfold aAt;obtain⟨a,ha⟩:∃a,(pR ns i v.dS).1=a:=⟨_,rfl⟩
    obtain⟨c,hc⟩:∃c,(pR ns i v.dS).2=c:=⟨_,rfl⟩
    rw[ha,hc] at hRe hfact;rw[ha,hc];simp only[ZZ,seval,h86,b1,b2,b3,b4,hRe,dR];refine jK (fun n st=>∃k:Nat,(st.env 3=kv/\st.env 4=.ptr 4 0 0/\st.heap 4 0=some (.cells (cH ⟨ns⟩))/\st.env 8=.ptr 8 0 0/\st.heap 8 0=some (.cells [.v (.slice none 0 0)])/\st.env 10=.v (.int .i64 a)/\st.env 11=.v (.int .i64 c)/\st.env 12=.v (.int .i64 k))/\(∀j:Int,0<=j->j<k->lW ns c (it l j)=false)/\k<=l.length/\n=l.length-k)
     (fun e st=>(e=.ret/\IM ns c l/\st.env 8=.ptr 8 0 0/\st.heap 8 0=some (.cells [.v (.slice none 0 0)])/\st.env 9=.v (.int .i64 21))\/(e=.exit 1/\¬IM ns c l/\st.env 4=.ptr 4 0 0/\st.heap 4 0=some (.cells (cH ⟨ns⟩))/\st.env 8=.ptr 8 0 0/\st.heap 8 0=some (.cells [.v (.slice none 0 0)])/\st.env 10=.v (.int .i64 a)/\st.env 11=.v (.int .i64 c))) l.length ?step ?start ?rest
    case step =>
     rintro n st ⟨k,hI,hj,hk,Hu⟩
     by_cases aW:(k:Int)<l.length
     ·have q0:(0:Int)<=k:=by omega
      have hw:i64.wrap ((k:Int)+1)=((k+1:Nat):Int):=by rw[Ej _ (by omega) (by omega)];omega
      cases hA:lW ns c (it l k)
      ·apply oN (l.length-(k+1))
       ·simp only[ZZ,seval,hI,aW,q0,hv,F9,h46,hA,hw];rfl
       ·exact⟨k+1,by simp only[EV,seval,hI],fun j j0 j1=>by
        by_cases hjk:j<k
        ·exact hj j j0 hjk
        ·rw[show j=(k:Int) by omega];exact hA,by omega,rfl⟩
      ·apply oT (.ret)
       ·simp only[ZZ,seval,hI,aW,q0,hv,F9,h46,hA];rfl
       ·exact .inl ⟨rfl,⟨_,Gu q0 aW,hA⟩,by simp only[EV,seval,hI],by simp only[EV,seval,hI],by simp only[EV,seval,hI]⟩
     ·obtain rfl:k=l.length:=by omega
      have hno:¬IM ns c l:=by
       rintro⟨x,hx,hxa⟩
       obtain⟨j,hj',rfl⟩:=getElem_of_mem hx
       have:=hj j (by omega) (by omega)
       rw[show it l (j:Int)=l[j] by simp[it,hj']] at this
       rw[this] at hxa;cases hxa
      apply oT (.exit 1)
      ·simp only[ZZ,seval,hI,hv,aW];rfl
      ·exact .inr ⟨rfl,hno,by simp only[EV,seval,hI]⟩
    case start=>exact⟨0,by simp only[EV,seval],fun j _ _=>by omega,by omega,by omega⟩
    case rest =>
     rintro e st (⟨rfl,hk,hI⟩|⟨rfl,hk,hI⟩)
     ·rw[if_pos hk];simp only[ZZ,seval];exact dN rfl (by simp only[bY,ZZ,seval,hI];rfl) (by simp only[bY,EV,seval,hI]<;>rfl) (by simp only[EV,seval]<;>rfl) (by simp only[EV,seval]<;>rfl)
     ·rw[if_neg hk];by_cases h0:0<=a
      ·rw[if_pos h0];have oE:a∈path ns i:=by
        rcases hfact.2 with h|h
        ·omega
        ·exact h.1
       obtain⟨_,a1⟩:=Ze hu a oE
       have h96:=aLF ns hu hn a
       rw[show raV ns a=stA (raO ns a) from if_pos ⟨h0,a1⟩] at h96;cases ho:raO ns a with
       | none =>
         rw[ho] at h96;simp only[stA,AQ] at h96;simp only[ZZ,seval,hI,h0,h96,dR];exact dN rfl (by simp only[bY,ZZ,seval,hI];rfl) (by simp only[bY,EV,seval,hI]<;>rfl) (by simp only[EV,seval]<;>rfl) (by simp only[EV,seval]<;>rfl)
       | some r =>
         rw[ho] at h96;simp only[stA] at h96;have hR:=IK hu ho
         have hu2:=hR.c.su.aLK hu
         have h97:=aLG r hu2 (by rw[hR.c.len];exact hn) c
         rcases II r (by rw[hR.c.len];exact hn) c with ⟨e,he⟩|⟨q,he,_⟩
         all_goals
          rw[he] at h97;simp only[he];simp only[ZZ,seval,hI,h0,h96,h97,dR];exact dN rfl (by simp only[bY,ZZ,seval,hI];rfl) (by simp only[bY,EV,seval,hI]<;>rfl) (by simp only[EV,seval]<;>rfl) (by simp only[EV,seval]<;>rfl)
      ·rw[if_neg h0];have h97:=aLG ns hu hn c
       rcases II ns hn c with ⟨e,he⟩|⟨q,he,_⟩
       all_goals
        rw[he] at h97;rw[he];simp only[ZZ,seval,hI,h0,h97,dR];exact dN rfl (by simp only[bY,ZZ,seval,hI];rfl) (by simp only[bY,EV,seval,hI]<;>rfl) (by simp only[EV,seval]<;>rfl) (by simp only[EV,seval]<;>rfl)
   ·rw[if_neg h2];have b2:(v.kind == 2)=false:=by simp[h2]
    by_cases h3:v.kind=3
    ·rw[if_pos (.inl h3)];have b3:(v.kind == 3)=true:=by simp[h3]
     simp only[ZZ,seval,h86,b1,b2,b3];exact dN rfl (by simp only[bY,ZZ,seval];rfl) (by simp only[bY,EV,seval]<;>rfl) (by simp only[EV,seval]<;>rfl) (by simp only[EV,seval]<;>rfl)
    ·have b3:(v.kind == 3)=false:=by simp[h3]
     by_cases h4:v.kind=4
     ·rw[if_pos (.inr h4)];have b4:(v.kind == 4)=true:=by simp[h4]
      simp only[ZZ,seval,h86,b1,b2,b3,b4];exact dN rfl (by simp only[bY,ZZ,seval];rfl) (by simp only[bY,EV,seval]<;>rfl) (by simp only[EV,seval]<;>rfl) (by simp only[EV,seval]<;>rfl)
     ·rw[if_neg (by omega)]
      have b4:(v.kind == 4)=false:=by simp[h4]
      simp only[ZZ,seval,h86,b1,b2,b3,b4];exact dN rfl (by simp only[bY,ZZ,seval];rfl) (by simp only[bY,EV,seval]<;>rfl) (by simp only[EV,seval]<;>rfl) (by simp only[EV,seval]<;>rfl)
 ·rw[if_pos hm];have hd:(decide (0<=i) && decide (i<(ns.length:Int)))=false:=by
   by_cases h0:0<=i
   ·have:¬i<ns.length:=fun h=>hm ⟨h0,h⟩
    simp[this]
   ·simp[h0]
  rw[hd] at h86;simp only[ZZ,seval,h86];exact dN rfl (by simp only[bY,ZZ,seval];rfl) (by simp only[bY,EV,seval]<;>rfl) (by simp only[EV,seval]<;>rfl) (by simp only[EV,seval]<;>rfl)
def wH (s:Config):Flat (.agg (bX s))↔Flat s.iF:=by
 constructor
 ·intro h;have h:∀x∈bX s,Flat x:=by cases h with|agg _ h=>exact h
  exact h _ (mem_of_getElem? (Au s))
 ·intro h0;exact .agg _ (uU s h0)
def Qy (s:vT):Flat (.agg (eQ s))↔Flat s.dS/\Flat s.gA:=by
 constructor
 ·intro h;have h:∀x∈eQ s,Flat x:=by cases h with|agg _ h=>exact h
  exact⟨h _ (mem_of_getElem? (wI s)),h _ (mem_of_getElem? (yU s))⟩
 ·rintro⟨h0,h1⟩
  exact .agg _ (pK s h0 h1)
def IN (s:Av):Flat (.agg (jZ s))↔Flat s.early/\Flat s.bN:=by
 constructor
 ·intro h;have h:∀x∈jZ s,Flat x:=by cases h with|agg _ h=>exact h
  exact⟨h _ (mem_of_getElem? (wJ s)),h _ (mem_of_getElem? (tL s))⟩
 ·rintro⟨h0,h1⟩
  exact .agg _ (Qz s h0 h1)
def QK (s:Eo):Flat (.agg (nA s))↔Flat s.nodes:=by
 constructor
 ·intro h;have h:∀x∈nA s,Flat x:=by cases h with|agg _ h=>exact h
  exact h _ (mem_of_getElem? (yV s))
 ·intro h0;exact .agg _ (xW s h0)
def Jj (s:aL):Flat (.agg (aA s))↔Flat s.cFg.iF/\Flat s.fP.dS/\Flat s.fP.gA/\Flat s.cM.early/\Flat s.cM.bN/\Flat s.tree.nodes/\Flat s.tables:=by
 constructor
 ·intro h;have h:∀x∈aA s,Flat x:=by cases h with|agg _ h=>exact h
  exact⟨h _ (mem_of_getElem? (rM s)),h _ (mem_of_getElem? (pS s)),h _ (mem_of_getElem? (qS s)),h _ (mem_of_getElem? (pT s)),h _ (mem_of_getElem? (oF s)),h _ (mem_of_getElem? (rO s)),h _ (mem_of_getElem? (wK s))⟩
 ·rintro⟨h0,h1,h2,h3,h4,h5,h6⟩
  exact .agg _ (Xa s h0 h1 h2 h3 h4 h5 h6)
def uV (s:State):Flat (.agg (aP s))↔Flat s.store.cFg.iF/\Flat s.store.fP.dS/\Flat s.store.fP.gA/\Flat s.store.cM.early/\Flat s.store.cM.bN/\Flat s.store.tree.nodes/\Flat s.store.tables/\Flat s.jA/\Flat s.rW:=by
 constructor
 ·intro h;have h:∀x∈aP s,Flat x:=by cases h with|agg _ h=>exact h
  exact⟨h _ (mem_of_getElem? (rP s)),h _ (mem_of_getElem? (qE s)),h _ (mem_of_getElem? (qW s)),h _ (mem_of_getElem? (qF s)),h _ (mem_of_getElem? (oW s)),h _ (mem_of_getElem? (rQ s)),h _ (mem_of_getElem? (uW s)),h _ (mem_of_getElem? (Aw s)),h _ (mem_of_getElem? (Co s))⟩
 ·rintro⟨h0,h1,h2,h3,h4,h5,h6,h7,h8⟩
  exact .agg _ (QL s h0 h1 h2 h3 h4 h5 h6 h7 h8)
def Ax (s:rX):Flat (.agg (iD s))↔Flat s.eM:=by
 constructor
 ·intro h;have h:∀x∈iD s,Flat x:=by cases h with|agg _ h=>exact h
  exact h _ (mem_of_getElem? (Gx s))
 ·intro h0;exact .agg _ (Uj s h0)
def Ay (s:Claim):Flat (.agg (gU s))↔Flat s.eM:=by
 constructor
 ·intro h;have h:∀x∈gU s,Flat x:=by cases h with|agg _ h=>exact h
  exact h _ (mem_of_getElem? (uX s))
 ·intro h0;exact .agg _ (Jk s h0)
def nM (s:gB):Flat (.agg (cD s))↔Flat s.first.eM/\Flat s.second.eM:=by
 constructor
 ·intro h;have h:∀x∈cD s,Flat x:=by cases h with|agg _ h=>exact h
  exact⟨h _ (mem_of_getElem? (oX s)),h _ (mem_of_getElem? (oG s))⟩
 ·rintro⟨h0,h1⟩
  exact .agg _ (Jl s h0 h1)
def gZ (s:Table):Flat (.agg (bZ s))↔Flat s.iF:=by
 constructor
 ·intro h;have h:∀x∈bZ s,Flat x:=by cases h with|agg _ h=>exact h
  exact h _ (mem_of_getElem? (Dq s))
 ·intro h0;exact .agg _ (Jm s h0)
def YR (s:yQ):Flat (.agg (lD s))↔Flat s.Il.eM/\Flat s.pL.first.eM/\Flat s.pL.second.eM/\Flat s.table.iF:=by
 constructor
 ·intro h;have h:∀x∈lD s,Flat x:=by cases h with|agg _ h=>exact h
  exact⟨h _ (mem_of_getElem? (Ep s)),h _ (mem_of_getElem? (sY s)),h _ (mem_of_getElem? (sI s)),h _ (mem_of_getElem? (Cp s))⟩
 ·rintro⟨h0,h1,h2,h3⟩
  exact .agg _ (O2 s h0 h1 h2 h3)
def aHF (x:Value):Flat (.v x)=True:=eq_true (.v x)
def QM (o:Option (List Int)):Flat (ov bF o)=True:=eq_true (dZ o)
def QN (o:Option (List Int)):Flat (ov aM o)=True:=eq_true (bQ o)
def IP (o:Option (List kN)):Flat (ov dE o)=True:=eq_true (pM o)
def AW (o:Option (List Block)):Flat (ov aH o)=True:=eq_true (Gy o)
def Ra (o:Option (List Request)):Flat (ov aF o)=True:=eq_true (jB o)
def QO (n:Nat) (o:List Int):Flat (.sl n (bF o))=True:=eq_true (.sl _ _ (iG o))
def QP (n:Nat) (o:List Int):Flat (.sl n (aM o))=True:=eq_true (.sl _ _ (gG o))
def IQ (n:Nat) (o:List kN):Flat (.sl n (dE o))=True:=eq_true (.sl _ _ (nN o))
def AX (n:Nat) (o:List Block):Flat (.sl n (aH o))=True:=eq_true (.sl _ _ (lE o))
def Rb (n:Nat) (o:List Request):Flat (.sl n (aF o))=True:=eq_true (.sl _ _ (uY o))
def IS (n:Nat) (o:List Node):Flat (.sl n (bV o))=True:=eq_true (.sl _ _ (iU o))
def G0 (r:cC):Flat (.agg (bC r))=True:=eq_true (rH r)
def QQ (r:Block):Flat (.agg (aU r))=True:=eq_true (tW r)
def G1 (r:rD):Flat (.agg (gI r))=True:=eq_true (.agg _ (iQ r))
def Cq (r:dL):Flat (.agg (bG r))=True:=eq_true (.agg _ (bR r))
def aAu (r:Request):Flat (.agg (dF r))=True:=eq_true (.agg _ (jV r))
def AY (r:gV):Flat (.agg (dK r))=True:=eq_true (.agg _ (jW r))
def IT (r:pU):Flat (.agg (fO r))=True:=eq_true (.agg _ (Gz r))
def QR (x:AV):Flat (.agg [x])↔Flat x:=by
 constructor
 ·intro h;cases h with|agg _ h=>exact h x (by simp)
 ·intro h;exact .agg _ (by simpa using h)
def jE:(type_of% aHF)/\(type_of% QM)/\(type_of% QN)/\(type_of% IP)/\(type_of% AW)/\(type_of% Ra)/\(type_of% QO)/\(type_of% QP)/\(type_of% IQ)/\(type_of% AX)/\(type_of% Rb)/\(type_of% IS)/\(type_of% G0)/\(type_of% QQ)/\(type_of% G1)/\(type_of% Cq)/\(type_of% aAu)/\(type_of% AY)/\(type_of% IT)/\(type_of% QR)/\(type_of% wH)/\(type_of% Qy)/\(type_of% IN)/\(type_of% QK)/\(type_of% Jj)/\(type_of% uV)/\(type_of% Ax)/\(type_of% Ay)/\(type_of% nM)/\(type_of% gZ)/\(type_of% YR) :=
 ⟨aHF,QM,QN,IP,AW,Ra,QO,QP,IQ,AX,Rb,IS,G0,QQ,G1,Cq,aAu,AY,IT,QR,wH,Qy,IN,QK,Jj,uV,Ax,Ay,nM,gZ,YR⟩
structure SV where
 B:Option (List Int)
 L:Option (List kN)
 Q:Option (List Int)
 E:Option (List rX)
 O:Option (List Block)
 T:Option (List Table)
 ns:List Node
def Er (a:rX):Prop:=∃V:Option (List Int),a.eM=ov aM V/\((ol V).length:Int)<1000000
def rR (t:Table):Prop:=∃b:Option (List Int),t.iF=ov bF b/\((ol b).length:Int)<1000000
structure SD (s:aL) (v:SV):Prop where
 iF:s.cFg.iF=ov bF v.B
 dS:s.fP.dS=ov dE v.L
 gA:s.fP.gA=ov aM v.Q
 early:s.cM.early=ov dT v.E
 bN:s.cM.bN=ov aH v.O
 tree:s.tree=⟨.sl v.ns.length (bV v.ns)⟩
 tables:s.tables=ov aN v.T
 eV:∀a∈ol v.E,Er a
 tB:∀t∈ol v.T,rR t
 nB:((ol v.B).length:Int)<1000000
 nL:((ol v.L).length:Int)<1000000
 nQ:((ol v.Q).length:Int)<1000000
 nE:((ol v.E).length:Int)<1000000
 nO:((ol v.O).length:Int)<1000000
 nT:((ol v.T).length:Int)<1000000
 nn:(v.ns.length:Int)<1000000
def Er.fl {a:rX} (h:Er a):Flat a.eM:=by obtain⟨V,h,_⟩:=h;rw[h];exact bQ V
def rR.fl {a:Table} (h:rR a):Flat a.iF:=by obtain⟨V,h,_⟩:=h;rw[h];exact dZ V
def SD.fE {s:aL} {v:SV} (h:SD s v):Flat (ov dT v.E):=AZ v.E fun a ha=>(h.eV a ha).fl
def SD.fT {s:aL} {v:SV} (h:SD s v):Flat (ov aN v.T):=kA v.T fun a ha=>(h.tB a ha).fl
def SD.flat {s:aL} {v:SV} (h:SD s v):Flat (.agg (aA s)):=by
 rw[Jj,h.iF,h.dS,h.gA,h.early,h.bN,h.tree,h.tables];exact⟨dZ _,pM _,bQ _,h.fE,Gy _,.sl _ _ (iU _),h.fT⟩
def c97 {s:aL} {v:SV} (hs:SD s v):aG prog 97 [.agg (aA s)]=some (.v (.int .i64 (ol v.B).length)):=by
 rw[cL func97 rfl rfl];simp only[Z8,seval,hs.iF];exact bT rfl (by simp only[E8,seval]<;>rfl) (.v _)
def Rc {s:aL} {v:SV} (hs:SD s v):KC 97 [.agg (aA s)] (.v (.int .i64 (ol v.B).length)):=fun _ _=>bE (cP hs.flat) (c97 hs) (.v _)
def wL (s:aL) (x:Int):Int:=u64.wrap (x.tdiv s.cFg.jS)
def c98 (s:aL) (h:s.cFg.jS≠0) (x:Int):aG prog 98 [.agg (aA s),.v (.int .u64 x)]=some (.v (.int .u64 (wL s x))):=by
 rw[cL func98 rfl rfl];have h0:(s.cFg.jS=0)=False:=eq_false h
 simp only[Z8,seval,h0];exact bT rfl (by simp only[E8,seval,wL]<;>rfl) (.v _)
def Oo (s:aL) (h:s.cFg.jS≠0) (hf:Flat (.agg (aA s))) (x:Int):KC 98 [.agg (aA s),.v (.int .u64 x)] (.v (.int .u64 (wL s x))):=fun _ _=>bE (bB hf (.v _)) (c98 s h x) (.v _)
def sJ (s:aL) (e:Int):Int × Int:=Mt e s.cFg.jS
def c99 (s:aL) (x:Int):aG prog 99 [.agg (aA s),.v (.int .u64 x)]=some (.eH [.v (.int .u64 (sJ s x).1),.v (.bool ((sJ s x).2 == 0))]):=by
 rw[cL func99 rfl rfl];simp only[Z8,seval,aO7,dR];exact dN rfl rfl rfl (by simp only[E8,seval,sJ]<;>rfl) (by simp only[E8,seval,sJ]<;>rfl)
def Ya (s:aL) (hf:Flat (.agg (aA s))) (x:Int):KC 99 [.agg (aA s),.v (.int .u64 x)] (.eH [.v (.int .u64 (sJ s x).1),.v (.bool ((sJ s x).2 == 0))]):=fun _ _=>bE (bB hf (.v _)) (c99 s x) (.eH _ (bB (.v _) (.v _)))
def aPM {s:aL} {v:SV} (hs:SD s v) (i:Int):aG prog 251 [.agg (aA s),.v (.int .i64 i)]=some (.v (.bool (decide (0<=i) && decide (i<v.ns.length)))):=by
 rw[cL func251 rfl rfl];by_cases h:0<=i
 all_goals
  simp only[Z8,seval,h,hs.tree,decide_true,decide_false,Bool.true_and,Bool.false_and];exact bT rfl (by simp only[E8,seval,h,decide_true,decide_false,Bool.true_and,Bool.false_and]<;>rfl) (.v _)
def BA {s:aL} {v:SV} (hs:SD s v) (i:Int):KC 251 [.agg (aA s),.v (.int .i64 i)] (.v (.bool (decide (0<=i) && decide (i<v.ns.length)))):=fun _ _=>bE (bB hs.flat (.v _)) (aPM hs i) (.v _)
def QS (s:aL) (b:Block):Prop:=b.fin.aE<=b.eI.aE/\b.eI.aE<=b.dW.pj.aE/\b.fin.aE<=b.dW.pf.aE/\b.dW.pf.aE<=b.dW.pj.aE/\b.dW.pj.aE<=wL s b.slot
def aPN (s:aL) (h:s.cFg.jS≠0) (hf:Flat (.agg (aA s))) (b:Block):aG prog 137 [.agg (aA s),.agg (aU b)]=some (.v (.bool (decide (QS s b)))):=by
 rw[cL func137 rfl rfl];have h98:=Oo s h hf
 unfold QS;by_cases h1:b.fin.aE<=b.eI.aE
 ·by_cases h2:b.eI.aE<=b.dW.pj.aE
  ·by_cases h3:b.fin.aE<=b.dW.pf.aE
   ·by_cases h4:b.dW.pf.aE<=b.dW.pj.aE
    ·simp only[*,true_and,false_and,and_true,and_false,decide_true,decide_false];simp only[Z8,seval, *];exact bT rfl (by simp only[E8,seval, *]<;>rfl) (.v _)
    ·simp only[*,true_and,false_and,and_true,and_false,decide_true,decide_false];simp only[Z8,seval, *];exact bT rfl (by simp only[E8,seval, *]<;>rfl) (.v _)
   ·simp only[*,true_and,false_and,and_true,and_false,decide_true,decide_false];simp only[Z8,seval, *];exact bT rfl (by simp only[E8,seval, *]<;>rfl) (.v _)
  ·simp only[*,true_and,false_and,and_true,and_false,decide_true,decide_false];simp only[Z8,seval, *];exact bT rfl (by simp only[E8,seval, *]<;>rfl) (.v _)
 ·simp only[*,true_and,false_and,and_true,and_false,decide_true,decide_false];simp only[Z8,seval, *];exact bT rfl (by simp only[E8,seval, *]<;>rfl) (.v _)
def aHG (s:aL) (h:s.cFg.jS≠0) (hf:Flat (.agg (aA s))) (b:Block):KC 137 [.agg (aA s),.agg (aU b)] (.v (.bool (decide (QS s b)))):=fun _ _=>bE (bB hf (tW _)) (aPN s h hf b) (.v _)
def Jn (s:aL) (ns:List Node) (i e:Int):Prop:=(sJ s e).2≠0\/(nd ns i).block.slot<=(sJ s e).1
def aPO {s:aL} {v:SV} (hs:SD s v) (i e:Int) (i0:0<=i) (i1:i<v.ns.length):aG prog 122 [.agg (aA s),.v (.int .i64 i),.v (.int .u64 e)]=some (.v (.bool (decide (Jn s v.ns i e)))):=by
 rw[cL func122 rfl rfl];unfold Jn;by_cases h:(sJ s e).2=0
 ·have hq:((sJ s e).2 == 0)=true:=by simp[h]
  simp only[h,ne_eq,not_true_eq_false,false_or];simp only[Z8,seval,Ya s hs.flat,dR,hq,hs.tree,i0,i1];exact bT rfl (by simp only[E8,seval]<;>rfl) (.v _)
 ·have hq:((sJ s e).2 == 0)=false:=by simp[h]
  simp only[h,ne_eq,not_false_eq_true,true_or,decide_true];simp only[Z8,seval,Ya s hs.flat,dR,hq,hs.tree,i0,i1];exact bT rfl (by simp only[E8,seval]<;>rfl) (.v _)
def aHH {s:aL} {v:SV} (hs:SD s v) (i e:Int) (i0:0<=i) (i1:i<v.ns.length):KC 122 [.agg (aA s),.v (.int .i64 i),.v (.int .u64 e)] (.v (.bool (decide (Jn s v.ns i e)))):=fun _ _=>bE (mM hs.flat (.v _) (.v _)) (aPO hs i e i0 i1) (.v _)
def Ty (x:Int) (h1:-9223372036854775808<=x) (h2:x<=9223372036854775807):i64.wrap x=x:=wrap_i64 x h1 h2
def wk {k:Nat} (h:(k:Int)<9223372036854775807):i64.wrap ((k:Int)+1)=((k+1:Nat):Int):=by rw[Ty _ (by omega) (by omega)];omega
def zY {α:Type} (z:α) (p:α->Bool) (l:List α) (k:Nat) (h:k<l.length):(l.take (k+1)).filter p=(l.take k).filter p++if p (gx z l k)=true then [gx z l k] else []:=by
 have hg:gx z l k=l[k]:=by simp[gx,h]
 rw[take_succ_eq_append_getElem h,filter_append,hg];congr 1
 by_cases hp:p l[k]=true<;>simp[hp]
def sZ (p:Nat->Prop):Nat->Int
 | 0=>-1
 | k+1=>if 0<=sZ p k then sZ p k else if p k then k else -1
def qN {p:Nat->Prop}:∀n:Nat,(∀j,j<n->¬p j)->sZ p n=-1
 | 0,_=>rfl
 | n+1,h=>by
   simp only[sZ];rw[qN n fun j hj=>h j (by omega),if_neg (by omega),if_neg (h n (by omega))]
def zP {p:Nat->Prop} {k:Nat} (hk:p k) (hj:∀j,j<k->¬p j):∀n:Nat,k<n->sZ p n=k
 | 0,h=>by omega
 | n+1,h=>by
   simp only[sZ];by_cases Cn:k=n
   ·subst Cn;rw[qN k hj,if_neg (by omega),if_pos hk]
   ·rw[zP hk hj n (by omega),if_pos (by omega)]
def lS (p:Nat->Prop) (n:Nat):(sZ p n=-1/\∀j,j<n->¬p j)\/∃k:Nat,k<n/\p k/\(∀j,j<k->¬p j)/\sZ p n=k:=by
 by_cases h:∃k,k<n/\p k
 ·obtain⟨k,⟨hk,hp⟩,hm⟩:=Ha h
  have hj:∀j,j<k->¬p j:=fun j hj hpj=>by have:=hm j ⟨by omega,hpj⟩;omega
  exact .inr ⟨k,hk,hp,hj,zP hp hj n hk⟩
 ·have h':∀j,j<n->¬p j:=fun j hj hp=>h ⟨j,hj,hp⟩
  exact .inl ⟨qN n h',h'⟩
def YS (p:Nat->Prop) (n:Nat):-1<=sZ p n/\sZ p n<n:=by
 rcases lS p n with ⟨h,_⟩|⟨k,hk,_,_,h⟩<;>rw[h]<;>omega
def BB (l:List Table) (c:dL):Int:=sZ (fun k=>(gx dM l k).ck=c) l.length
def c65 (o:Option (List Table)) (hn:((ol o).length:Int)<1000000) (c:dL):aG prog 65 [ov aN o,.agg (bG c)]=some (.v (.int .i64 (BB (ol o) c))):=by
 rw[cL func65 rfl (by cases o<;>rfl)]
 simp only[Z8,seval];refine jK (fun m st=>∃k:Nat,(st.env 0=ov aN o/\st.env 3=.ptr 3 0 0/\st.heap 3 0=some (.cells (bG c))/\st.env 5=.v (.int .i64 k))/\(∀j:Nat,j<k->¬((gx dM (ol o) (j:Int)).ck=c))/\k<=(ol o).length/\m=(ol o).length-k)
  (fun e st=>(e=.ret/\∃k:Nat,k<(ol o).length/\((gx dM (ol o) (k:Int)).ck=c)/\(∀j:Nat,j<k->¬((gx dM (ol o) (j:Int)).ck=c))/\st.env 4=.v (.int .i64 (k:Nat)))\/(e=.exit 0/\(∀j:Nat,j<(ol o).length->¬((gx dM (ol o) (j:Int)).ck=c))/\st.env 0=ov aN o/\st.env 3=.ptr 3 0 0/\st.heap 3 0=some (.cells (bG c)))) ((ol o).length) ?step ?start ?rest
 case step =>
  rintro m st ⟨k,hI,hj,hk,hm⟩
  by_cases aW:(k:Int)<(ol o).length
  ·have q0:(0:Int)<=k:=by omega
   have hw:=wk (k:=k) (by omega)
   by_cases hh:(gx dM (ol o) (k:Int)).ck=c
   ·apply oT (.ret)
    ·simp only[Z8,seval,hI,aW,q0,hh];rfl
    ·exact .inl ⟨rfl,k,by omega,hh,hj,by simp only[E8,seval]⟩
   ·apply oN ((ol o).length-(k+1))
    ·simp only[Z8,seval,hI,aW,q0,hh,hw];rfl
    ·exact⟨k+1,by simp only[E8,seval,hI],fun j h=>(Nat.lt_succ_iff_lt_or_eq.1 h).elim (hj j) fun e=>by subst e;exact hh,by omega,rfl⟩
  ·apply oT (.exit 0)
   ·simp only[Z8,seval,hI,aW];rfl
   ·exact .inr ⟨rfl,fun j h=>hj j (by omega),by simp only[E8,seval,hI]⟩
 case start=>exact⟨0,by simp only[E8,seval]<;>rfl,fun j h=>by omega,by omega,by omega⟩
 case rest =>
  rintro e st (⟨rfl,k,hk,hh,hj,h⟩|⟨rfl,hj,h⟩)
  ·have hv:BB (ol o) c=k:=zP hh hj _ hk
   simp only[Z8,seval];exact bT rfl (by simp only[E8,seval,h,hv]<;>rfl) (.v _)
  ·have hv:BB (ol o) c=-1:=qN _ hj
   simp only[Z8,seval];exact bT rfl (by simp only[E8,seval,h,hv]<;>rfl) (.v _)
def YT (o:Option (List Table)) (hn:((ol o).length:Int)<1000000) (hf:Flat (ov aN o)) (c:dL):KC 65 [ov aN o,.agg (bG c)] (.v (.int .i64 (BB (ol o) c))):=fun _ _=>bE (bB hf (.agg _ (bR c))) (c65 o hn c) (.v _)
def nz {α:Type} (l:List α):Option (List α):=if l=[] then none else some l
def mF {α:Type} (l:List α):ol (nz l)=l:=by unfold nz;split<;>simp[ol, *]
def tY (l:List Table) (x:Int):List Table:=l.filter fun t=>decide (x<=t.ck.aE)
def Rd (e sz:Nat) {α:Type} (c:List α->List AV) (l:List α):AV:=if l=[] then .v (.slice none 0 0) else .uniq e sz l.length (c l)
def aPP (o:Option (List Table)) (hn:((ol o).length:Int)<1000000) (ht:∀t∈ol o,Flat t.iF) (x:Int):aG prog 128 [ov aN o,.v (.int .u64 x)]=some (Rd 118 34 aN (tY (ol o) x)):=by
 rw[cL func128 rfl (by cases o<;>rfl)]
 have XL:∀l:List Table,(∀t∈l,t∈ol o)->∀y∈aN l,Flat y:=fun l h=>kD l fun t m=>ht t (h t m)
 simp only[Z8,seval];refine jK (fun m st=>∃k:Nat,(st.env 0=ov aN o/\st.env 1=.v (.int .u64 x)/\st.env 6=.v (.int .i64 k))/\(((((ol o).take k).filter (fun t=>decide (x<=t.ck.aE)))=[]/\st.env 5=.v (.slice none 0 0))\/((((ol o).take k).filter (fun t=>decide (x<=t.ck.aE)))≠[]/\∃g,st.env 5=.own 27 g/\g<st.aQ 27/\st.heap 27 g=some (.row 118 34 (((ol o).take k).filter (fun t=>decide (x<=t.ck.aE))).length (aN (((ol o).take k).filter (fun t=>decide (x<=t.ck.aE)))))))/\k<=(ol o).length/\m=(ol o).length-k)
  (fun e st=>e=.exit 0/\(((((ol o).take (ol o).length).filter (fun t=>decide (x<=t.ck.aE)))=[]/\st.env 5=.v (.slice none 0 0))\/((((ol o).take (ol o).length).filter (fun t=>decide (x<=t.ck.aE)))≠[]/\∃g,st.env 5=.own 27 g/\g<st.aQ 27/\st.heap 27 g=some (.row 118 34 (((ol o).take (ol o).length).filter (fun t=>decide (x<=t.ck.aE))).length (aN (((ol o).take (ol o).length).filter (fun t=>decide (x<=t.ck.aE)))))))/\st.env 0=ov aN o/\st.env 1=.v (.int .u64 x)) ((ol o).length) ?step ?start ?rest
 case step =>
  rintro m st ⟨k,hI,h5,hk,hm⟩
  have Iv:(((((ol o).take k).filter (fun t=>decide (x<=t.ck.aE))).length:Nat):Int)<1000000:=by have:=length_filter_le (fun t=>decide (x<=t.ck.aE)) ((ol o).take k);have h2:=length_take_le' k (ol o);omega
  by_cases aW:(k:Int)<(ol o).length
  ·have q0:(0:Int)<=k:=by omega
   have hw:=wk (k:=k) (by omega)
   have hs:=zY dM (fun t=>decide (x<=t.ck.aE)) (ol o) k (by omega)
   have aHI:Flat (.agg (bZ (gx dM (ol o) (k:Int)))):=(gZ _).2 (ht _ (nC q0 aW))
   by_cases hh:x<=(gx dM (ol o) (k:Int)).ck.aE
   ·rw[if_pos (decide_eq_true hh)] at hs;rcases h5 with ⟨hy,h5⟩|⟨hy,g,h5⟩
    ·rw[hy] at hs;apply oN ((ol o).length-(k+1))
     ·simp only[Z8,seval,hI,h5,aW,hw,q0,aHI,hh];rfl
     ·exact⟨k+1,by simp only[E8,seval,hI],.inr ⟨by rw[hs];simp,_,by simp only[E8,seval]<;>rfl,(by simp only[E8,seval]<;>omega),(by rw[hs];simp only[E8,seval]<;>rfl)⟩,by omega,rfl⟩
    ·apply oN ((ol o).length-(k+1))
     ·simp only[Z8,seval,hI,h5,Iv,aW,hw,q0,aHI,hh];rfl
     ·exact⟨k+1,by simp only[E8,seval,hI],.inr ⟨by rw[hs];simp,_,by simp only[E8,seval]<;>rfl,(by simp only[E8,seval]<;>omega),(by rw[hs];simp only[E8,seval]<;>rfl)⟩,by omega,rfl⟩
   ·rw[if_neg (by simpa using hh),append_nil] at hs
    apply oN ((ol o).length-(k+1))
    ·simp only[Z8,seval,hI,aW,hw,q0,aHI,hh];rfl
    ·exact⟨k+1,by simp only[E8,seval,hI],by rw[hs];simpa only[E8,seval] using h5,by omega,rfl⟩
  ·have Cn:k=(ol o).length:=by omega
   rw[Cn] at h5;apply oT (.exit 0)
   ·simp only[Z8,seval,hI,aW];rfl
   ·exact⟨rfl,by simpa only[E8,seval] using h5,by simp only[E8,seval,hI]⟩
 case start=>exact⟨0,by simp only[E8,seval]<;>rfl,.inl ⟨rfl,by simp only[E8,seval]⟩,by omega,by omega⟩
 case rest =>
  rintro e st ⟨rfl,⟨hy,h5⟩|⟨hy,g,h5,hg,Bz⟩,hI⟩
  ·rw[take_length] at hy;rw[show Rd 118 34 aN (tY (ol o) x)=.v (.slice none 0 0) from if_pos hy];simp only[Z8,seval,h5];exact bT rfl (by simp only[E8,seval]<;>rfl) (.v _)
  ·rw[take_length] at hy Bz;rw[show Rd 118 34 aN (tY (ol o) x)=.uniq 118 34 (tY (ol o) x).length (aN (tY (ol o) x)) from if_neg hy];simp only[Z8,seval,h5,Bz];exact uK rfl (by simp only[E8,seval];rfl) (by simp only[E8,seval,Bz];rfl) (XL _ fun t m=>(mem_filter.1 m).1)
def LA {T n sz:Nat} (ha:jP prog T=some (n,sz)) (st:St) (x:AV) {k:IntKind} {i:Int} (h0:0<=i) (h1:i<n):bI prog st T x (.v (.int k i))=wC x (i.toNat * sz):=by
 simp only[bI,ha];rw[if_pos ⟨h0,h1⟩]
def YU (st:St) (x:AV) {k:IntKind} {i:Int} (h0:0<=i) (h1:i<32):bI prog st 27 x (.v (.int k i))=wC x (i.toNat * 1):=LA aHJ st x h0 h1
def Jo (st:St) (x:AV) {k:IntKind} {i:Int} (h0:0<=i) (h1:i<4):bI prog st 33 x (.v (.int k i))=wC x (i.toNat * 1):=LA aLN st x h0 h1
def rb (r:cC) (i:Int):Int:=r.toList.getD i.toNat 0
def wb (r:rD) (i:Int):Int:=r.toList.getD i.toNat 0
def IU (r:cC) {i:Int} (h0:0<=i) (h1:i<32):(bC r)[i.toNat]? = some (.v (.int .u8 (rb r i))):=by
 have h:i.toNat<r.toList.length:=by simp;omega
 unfold bC rb;rw[getElem?_map,getElem?_eq_getElem h,getD_eq_getElem?_getD,getElem?_eq_getElem h];rfl
def Uk (r:rD) {i:Int} (h0:0<=i) (h1:i<4):(gI r)[i.toNat]? = some (.v (.int .u64 (wb r i))):=by
 have h:i.toNat<r.toList.length:=by simp;omega
 unfold gI wb;rw[getElem?_map,getElem?_eq_getElem h,getD_eq_getElem?_getD,getElem?_eq_getElem h];rfl
def Jp (a b:cC):Int:=if sZ (fun k=>rb a k≠rb b k) 32<0 then 0 else if rb a (sZ (fun k=>rb a k≠rb b k) 32)<rb b (sZ (fun k=>rb a k≠rb b k) 32) then -1 else 1
def LB {a b:cC} {k:Nat} (hk:k<32) (hj:∀j:Nat,j<k->¬rb a j≠rb b j) (h:rb a k≠rb b k):Jp a b=if rb a k<rb b k then -1 else 1:=by
 have e:=zP (p:=fun k=>rb a k≠rb b k) h hj 32 hk
 unfold Jp;rw[e,if_neg (by omega)]
def G3 {a b:cC} (hj:∀j:Nat,j<32->¬rb a j≠rb b j):Jp a b=0:=by
 unfold Jp;rw[qN (p:=fun k=>rb a k≠rb b k) 32 hj,if_pos (by omega)]
def Re {a b:cC}:Jp a b<0↔∃k:Nat,k<32/\(∀j:Nat,j<k->rb a j=rb b j)/\rb a k<rb b k:=by
 rcases lS (fun k=>rb a k≠rb b k) 32 with ⟨_,h⟩|⟨k,hk,h1,h2,_⟩
 ·rw[G3 h];exact⟨fun g=>by omega,fun ⟨k,hk,_,h3⟩=>absurd (Decidable.not_not.1 (h k hk)) (by omega)⟩
 ·rw[LB hk h2 h1];constructor
  ·intro g;split at g
   ·rename_i h3;exact⟨k,hk,fun j hj=>Decidable.not_not.1 (h2 j hj),h3⟩
   ·omega
  ·rintro⟨m,hm,h3,h4⟩
   have e:m=k:=by
    rcases Nat.lt_trichotomy m k with g|g|g
    ·have:=Decidable.not_not.1 (h2 m g);omega
    ·exact g
    ·exact absurd (h3 k g) h1
   subst e;rw[if_pos h4];omega
def aHK {a b:cC} (h:∀j:Nat,j<32->rb a j=rb b j):a=b:=by
 apply Vector.ext
 intro i hi;have:=h i hi
 simpa [rb,hi] using this
def aAv {a b:cC} (h:¬Jp a b<0) (hn:a≠b):Jp b a<0:=by
 rcases lS (fun k=>rb a k≠rb b k) 32 with ⟨_,g⟩|⟨k,hk,h1,h2,_⟩
 ·exact absurd (aHK fun j hj=>Decidable.not_not.1 (g j hj)) hn
 ·refine Re.2 ⟨k,hk,fun j hj=>(Decidable.not_not.1 (h2 j hj)).symm, ?_⟩
  rcases Int.lt_trichotomy (rb a k) (rb b k) with g|g|g
  ·exact absurd (Re.2 ⟨k,hk,fun j hj=>Decidable.not_not.1 (h2 j hj),g⟩) h
  ·exact absurd g h1
  ·exact g
def aD9 {a b c:cC} (h:Jp a b<0) (g:Jp b c<0):Jp a c<0:=by
 obtain⟨k,hk,k1,k2⟩:=Re.1 h
 obtain⟨m,hm,m1,m2⟩:=Re.1 g
 refine Re.2 ?_
 rcases Nat.lt_trichotomy k m with e|e|e
 ·exact⟨k,hk,fun j hj=>(k1 j hj).trans (m1 j (by omega)),by rw[<- m1 k e];exact k2⟩
 ·subst e;exact⟨k,hk,fun j hj=>(k1 j hj).trans (m1 j hj),by omega⟩
 ·exact⟨m,hm,fun j hj=>(k1 j (by omega)).trans (m1 j hj),by rw[k1 m e];exact m2⟩
def aPQ (a b:cC):aG prog 176 [.agg (bC a),.agg (bC b)]=some (.v (.int .i64 (Jp a b))):=by
 rw[cL func176 rfl rfl];refine iA ?_
 simp only[Z8,seval];refine cA (fun m st=>∃k:Nat,(st.env 2=.ptr 2 0 0/\st.heap 2 0=some (.cells (bC a))/\st.env 3=.ptr 3 0 0/\st.heap 3 0=some (.cells (bC b))/\st.env 5=.v (.int .i64 k))/\(∀j:Nat,j<k->¬rb a j≠rb b j)/\k<=32/\m=32-k)
  (fun e st=>(e=.ret/\st.env 4=.v (.int .i64 (Jp a b)))\/(e=.exit 0/\Jp a b=0)) 32 ?step ?start ?rest
 case step =>
  rintro m st ⟨k,hI,hj,hk,hm⟩
  by_cases aW:(k:Int)<32
  ·have q0:(0:Int)<=k:=by omega
   have hw:=wk (k:=k) (by omega)
   have ga:=IU a q0 aW
   have gb:=IU b q0 aW
   by_cases h1:rb a k<rb b k
   ·apply oT (.ret)
    ·simp only[Z8,seval,hI,aW,q0,YU,ga,gb,h1];rfl
    ·exact .inl ⟨rfl,by rw[LB (by omega) hj (by omega),if_pos h1];simp only[E8,seval]⟩
   ·by_cases h2:rb b k<rb a k
    ·apply oT (.ret)
     ·simp only[Z8,seval,hI,aW,q0,YU,ga,gb,h1,h2];rfl
     ·exact .inl ⟨rfl,by rw[LB (by omega) hj (by omega),if_neg h1];simp only[E8,seval]⟩
    ·apply oN (32-(k+1))
     ·simp only[Z8,seval,hI,aW,q0,YU,ga,gb,h1,h2,hw];rfl
     ·exact⟨k+1,by simp only[E8,seval,hI],fun j h=>(Nat.lt_succ_iff_lt_or_eq.1 h).elim (hj j) fun e=>by subst e;omega,by omega,rfl⟩
  ·apply oT (.exit 0)
   ·simp only[Z8,seval,hI,aW];rfl
   ·exact .inr ⟨rfl,G3 fun j h=>hj j (by omega)⟩
 case start=>exact⟨0,by simp only[E8,seval]<;>rfl,fun j h=>by omega,by omega,by omega⟩
 case rest =>
  rintro e st (⟨rfl,h⟩|⟨rfl,h⟩)
  ·simp only[Z8,seval];exact⟨_,bT rfl (by simp only[E8,seval,h]<;>rfl) (by first|exact .v _|simp only[jE,h]),rfl⟩
  ·simp only[Z8,seval];exact⟨_,bT rfl,by rw[h]⟩
def aHL (a b:cC):KC 176 [.agg (bC a),.agg (bC b)] (.v (.int .i64 (Jp a b))):=fun _ _=>bE (bB (rH a) (rH b)) (aPQ a b) (.v _)
def aLO (a b:rD):∃c:Int,aG prog 170 [.agg (gI a),.agg (gI b)]=some (.v (.int .i64 c)):=by
 rw[cL func170 rfl rfl];suffices h:∃r,cT (Bx prog _ (St.init [.agg (gI a),.agg (gI b)])) (Dn prog 170 Tryz.f170)=some r/\∃c:Int,r=.v (.int .i64 c) by
  obtain⟨r,h,c,rfl⟩:=h;exact⟨c,h⟩
 simp only[Z8,seval];refine cA (fun m st=>∃k:Nat,(st.env 2=.ptr 2 0 0/\st.heap 2 0=some (.cells (gI a))/\st.env 3=.ptr 3 0 0/\st.heap 3 0=some (.cells (gI b))/\st.env 5=.v (.int .i64 ((k:Int)-1)))/\k<=4/\m=k)
  (fun e st=>(e=.ret/\∃c:Int,st.env 4=.v (.int .i64 c))\/e=.exit 0) 4 ?step ?start ?rest
 case step =>
  rintro m st ⟨k,hI,hk,hm⟩
  by_cases aW:(0:Int)<=(k:Int)-1
  ·have q1:(k:Int)-1<4:=by omega
   have hw:i64.wrap ((k:Int)-1-1)=((k-1:Nat):Int)-1:=by rw[Ty _ (by omega) (by omega)];omega
   have ga:=Uk a aW q1
   have gb:=Uk b aW q1
   by_cases h1:wb a ((k:Int)-1)<wb b ((k:Int)-1)
   ·apply oT (.ret)
    ·simp only[Z8,seval,hI,aW,q1,Jo,ga,gb,h1];rfl
    ·exact .inl ⟨rfl,-1,by simp only[E8,seval]⟩
   ·by_cases h2:wb b ((k:Int)-1)<wb a ((k:Int)-1)
    ·apply oT (.ret)
     ·simp only[Z8,seval,hI,aW,q1,Jo,ga,gb,h1,h2];rfl
     ·exact .inl ⟨rfl,1,by simp only[E8,seval]⟩
    ·apply oN (k-1)
     ·simp only[Z8,seval,hI,aW,q1,Jo,ga,gb,h1,h2,hw];rfl
     ·exact⟨k-1,by simp only[E8,seval,hI],by omega,rfl⟩
  ·apply oT (.exit 0)
   ·simp only[Z8,seval,hI,aW];rfl
   ·exact .inr rfl
 case start=>exact⟨4,by simp only[E8,seval]<;>rfl,by omega,by omega⟩
 case rest =>
  rintro e st (⟨rfl,c,h⟩|rfl)
  ·simp only[Z8,seval];exact⟨_,bT rfl h (.v _),c,rfl⟩
  ·simp only[Z8,seval];exact⟨_,bT rfl (by simp only[E8,seval]<;>rfl) (.v _),0,rfl⟩
def aEa (a b:rD):Int:=Classical.choose (aLO a b)
def aLP (a b:rD):KC 170 [.agg (gI a),.agg (gI b)] (.v (.int .i64 (aEa a b))):=fun _ _=>bE (bB (.agg _ (iQ a)) (.agg _ (iQ b))) (Classical.choose_spec (aLO a b)) (.v _)
def aPR (p b:Block):aG prog 169 [.agg (aU p),.agg (aU b)]=some (.v (.bool (!decide (b.gP=cO) && decide (p.gP=cO)))):=by
 rw[cL func169 rfl rfl];by_cases h:b.gP=cO
 all_goals
  simp only[h,decide_true,decide_false,Bool.not_true,Bool.not_false,Bool.true_and,Bool.false_and];simp only[Z8,seval,h,decide_true,decide_false];exact bT rfl (by simp only[E8,seval]<;>rfl) (.v _)
def aHM (p b:Block):KC 169 [.agg (aU p),.agg (aU b)] (.v (.bool (!decide (b.gP=cO) && decide (p.gP=cO)))):=fun _ _=>bE (bB (tW p) (tW b)) (aPR p b) (.v _)
def QT (BC:rD) (p b:Block):Prop:=(b.gP=cO->p.gP=cO)/\(b.gP≠cO->p.gP=cO->aEa b.IV BC<0/\0<=aEa b.diff BC)
def aPS (BC:rD) (p b:Block):aG prog 114 [.agg (gI BC),.agg (aU p),.agg (aU b)]=some (.v (.bool (decide (QT BC p b)))):=by
 rw[cL func114 rfl rfl];unfold QT;by_cases h:b.gP=cO
 ·simp only[h,forall_const,ne_eq,not_true_eq_false,false_implies,and_true];simp only[Z8,seval,h,decide_true];exact bT rfl (by simp only[E8,seval]<;>rfl) (.v _)
 ·by_cases hp:p.gP=cO
  ·simp only[h,hp,ne_eq,not_false_eq_true,forall_const,false_implies,true_and];by_cases h1:aEa b.IV BC<0
   ·simp only[h1,true_and];simp only[Z8,seval,h,hp,aHM,aLP,h1,decide_true,decide_false,Bool.not_false,Bool.true_and];exact bT rfl (by simp only[E8,seval]<;>rfl) (.v _)
   ·simp only[h1,false_and,decide_false];simp only[Z8,seval,h,hp,aHM,aLP,h1,decide_true,decide_false,Bool.not_false,Bool.true_and];exact bT rfl (by simp only[E8,seval]<;>rfl) (.v _)
  ·simp only[h,hp,ne_eq,not_false_eq_true,forall_const,false_implies,and_self,decide_true];simp only[Z8,seval,h,hp,aHM,decide_false,Bool.not_false,Bool.true_and];exact bT rfl (by simp only[E8,seval]<;>rfl) (.v _)
def BD (BC:rD) (p b:Block):KC 114 [.agg (gI BC),.agg (aU p),.agg (aU b)] (.v (.bool (decide (QT BC p b)))):=fun _ _=>bE (mM (.agg _ (iQ BC)) (tW p) (tW b)) (aPS BC p b) (.v _)
def Cb (b:Block):Int:=if b.gP=cO then 1 else 0
def aPT (b:Block):aG prog 233 [.agg (aU b)]=some (.v (.int .i64 (Cb b))):=by
 rw[cL func233 rfl rfl];unfold Cb;by_cases h:b.gP=cO
 ·simp only[h,if_true];simp only[Z8,seval,h,decide_true];exact bT rfl (by simp only[E8,seval]<;>rfl) (.v _)
 ·simp only[h,if_false];simp only[Z8,seval,h,decide_false];exact bT rfl (by simp only[E8,seval]<;>rfl) (.v _)
def aLQ (b:Block):KC 233 [.agg (aU b)] (.v (.int .i64 (Cb b))):=fun _ _=>bE (cP (tW b)) (aPT b) (.v _)
def kx {g:Nat} {args:List AV} {r:AV} (h:aG prog g args=some r) (hf:∀x∈args,Flat x) (hr:Flat r):∀(st:St) (d:Option Nat),bH (aG prog) g args st d=some { dst:=d,val:=r }:=fun st d=>bE hf h hr
def bf {x y:Int} (h:¬x=y):(x == y)=false/\(x != y)=true:=by simp[h]
def bt {x y:Int} (h:x=y):(x == y)=true/\(x != y)=false:=by simp[h]
def Mu (l:List Int) (n:Int) (k:Nat):Prop:=gx (0:Int) l k<0\/n<=gx (0:Int) l k\/(0<k/\gx (0:Int) l k<=gx (0:Int) l ((k:Int)-1))
def Lk (l:List Int) (n:Int):Int:=if l=[] then 2 else if sZ (Mu l n) l.length<0 then 0 else if gx (0:Int) l (sZ (Mu l n) l.length)<0\/n<=gx (0:Int) l (sZ (Mu l n) l.length) then 3 else 8
def c40 (o:Option (List Int)) (hn:((ol o).length:Int)<1000000) (n:Int):aG prog 40 [ov aM o,.v (.int .i64 n)]=some (.v (.int .i64 (Lk (ol o) n))):=by
 rw[cL func40 rfl (by cases o<;>rfl)]
 refine iA ?_
 by_cases h0:ol o=[]
 ·have hv:Lk (ol o) n=2:=if_pos h0
  have hl:(ol o).length=0:=by rw[h0];rfl
  simp only[Z8,seval,hl];exact⟨_,bT rfl (by simp only[E8,seval,hv]<;>rfl) (by first|exact .v _|simp only[jE,hv]),rfl⟩
 have hl:=bf (x:=((ol o).length:Int)) (y:=0) (by have:=length_pos_iff.2 h0;omega)
 simp only[Z8,seval,hl];refine cA (fun m st=>∃k:Nat,(st.env 0=ov aM o/\st.env 1=.v (.int .i64 n)/\st.env 5=.v (.int .i64 k))/\(∀j:Nat,j<k->¬Mu (ol o) n j)/\k<=(ol o).length/\m=(ol o).length-k)
  (fun e st=>(e=.ret/\∃k:Nat,k<(ol o).length/\Mu (ol o) n k/\(∀j:Nat,j<k->¬Mu (ol o) n j)/\st.env 4=.v (.int .i64 (if gx (0:Int) (ol o) k<0\/n<=gx (0:Int) (ol o) k then 3 else 8)))\/(e=.exit 0/\∀j:Nat,j<(ol o).length->¬Mu (ol o) n j)) (ol o).length ?step ?start ?rest
 case step =>
  rintro m st ⟨k,hI,hj,hk,hm⟩
  by_cases aW:(k:Int)<(ol o).length
  ·have q0:(0:Int)<=k:=by omega
   have hw:=wk (k:=k) (by omega)
   by_cases h1:gx (0:Int) (ol o) k<0
   ·apply oT (.ret)
    ·simp only[Z8,seval,hI,aW,q0,h1];rfl
    ·exact .inl ⟨rfl,k,by omega,.inl h1,hj,by simp only[E8,seval,h1,true_or]⟩
   by_cases h2:n<=gx (0:Int) (ol o) k
   ·apply oT (.ret)
    ·simp only[Z8,seval,hI,aW,q0,h1,h2];rfl
    ·exact .inl ⟨rfl,k,by omega,.inr (.inl h2),hj,by simp only[E8,seval,h2,or_true]⟩
   by_cases h3:(0:Int)<k
   ·have q1:(0:Int)<=(k:Int)-1:=by omega
    have q2:(k:Int)-1<(ol o).length:=by omega
    have XK:i64.wrap ((k:Int)-1)=(k:Int)-1:=by rw[Ty _ (by omega) (by omega)]
    by_cases h4:gx (0:Int) (ol o) k<=gx (0:Int) (ol o) ((k:Int)-1)
    ·apply oT (.ret)
     ·simp only[Z8,seval,hI,aW,q0,q1,q2,XK,h1,h2,h3,h4];rfl
     ·exact .inl ⟨rfl,k,by omega,.inr (.inr ⟨by omega,h4⟩),hj,by simp only[E8,seval,h1,h2,or_self]⟩
    ·apply oN ((ol o).length-(k+1))
     ·simp only[Z8,seval,hI,aW,q0,q1,q2,XK,h1,h2,h3,h4,hw];rfl
     ·exact⟨k+1,by simp only[E8,seval,hI],fun j h=>(Nat.lt_succ_iff_lt_or_eq.1 h).elim (hj j) fun e=>by subst e;unfold Mu;simp only[h1,h2,h4,and_false,or_self,not_false_eq_true],by omega,rfl⟩
   ·have h5:¬(0<k):=by omega
    apply oN ((ol o).length-(k+1))
    ·simp only[Z8,seval,hI,aW,q0,h1,h2,h3,hw];rfl
    ·exact⟨k+1,by simp only[E8,seval,hI],fun j h=>(Nat.lt_succ_iff_lt_or_eq.1 h).elim (hj j) fun e=>by subst e;unfold Mu;simp only[h1,h2,h5,false_and,or_self,not_false_eq_true],by omega,rfl⟩
  ·apply oT (.exit 0)
   ·simp only[Z8,seval,hI,aW];rfl
   ·exact .inr ⟨rfl,fun j h=>hj j (by omega)⟩
 case start=>exact⟨0,by simp only[E8,seval]<;>rfl,fun j h=>by omega,by omega,by omega⟩
 case rest =>
  rintro e st (⟨rfl,k,hk,hh,hj,h⟩|⟨rfl,hj⟩)
  ·have hv:Lk (ol o) n=if gx (0:Int) (ol o) k<0\/n<=gx (0:Int) (ol o) k then 3 else 8:=by
    unfold Lk;rw[if_neg h0,zP hh hj _ hk,if_neg (by omega)]
   rw[<- hv] at h;simp only[Z8,seval];exact⟨_,bT rfl (by simp only[E8,seval,h]<;>rfl) (by first|exact .v _|simp only[jE,h]),rfl⟩
  ·have hv:Lk (ol o) n=0:=by
    unfold Lk;rw[if_neg h0,qN _ hj,if_pos (by omega)]
   simp only[Z8,seval];exact⟨_,bT rfl (by simp only[E8,seval,hv]<;>rfl) (by first|exact .v _|simp only[jE,hv]),rfl⟩
def aEb (a b:Int):(FM a b).2≠21:=by unfold FM;split<;>simp
def YV (l:List Int) (n:Int):Lk l n≠21:=by unfold Lk;split;simp;split;simp;split<;>simp
def aLR (o:Option (List Int)) (hn:((ol o).length:Int)<1000000):∃r,aG prog 175 [ov bF o]=some r/\∃a e:Int,r=.eH [.v (.int .u64 a),.v (.int .i64 e)]/\e≠21:=by
 rw[cL func175 rfl (by cases o<;>rfl)]
 simp only[Z8,seval];refine cA (fun m st=>∃(k:Nat) (a:Int),(st.env 0=ov bF o/\st.env 4=.v (.int .u64 a)/\st.env 5=.v (.int .i64 k))/\k<=(ol o).length/\m=(ol o).length-k)
  (fun e st=>(e=.ret/\∃a e:Int,st.env 2=.v (.int .u64 a)/\st.env 3=.v (.int .i64 e)/\e≠21)\/(e=.exit 0/\∃a:Int,st.env 4=.v (.int .u64 a))) (ol o).length ?step ?start ?rest
 case step =>
  rintro m st ⟨k,a,hI,hk,hm⟩
  by_cases aW:(k:Int)<(ol o).length
  ·have q0:(0:Int)<=k:=by omega
   have hw:=wk (k:=k) (by omega)
   by_cases h1:(FM a (gx (0:Int) (ol o) k)).2=0
   ·apply oN ((ol o).length-(k+1))
    ·simp only[Z8,seval,hI,aW,q0,aHv,dR,h1,hw];rfl
    ·exact⟨k+1,_,by simp only[E8,seval,hI]<;>rfl,by omega,rfl⟩
   ·apply oT (.ret)
    ·simp only[Z8,seval,hI,aW,q0,aHv,dR,bf h1];rfl
    ·exact .inl ⟨rfl,_,_,by simp only[E8,seval]<;>rfl,by simp only[E8,seval]<;>rfl,aEb _ _⟩
  ·apply oT (.exit 0)
   ·simp only[Z8,seval,hI,aW];rfl
   ·exact .inr ⟨rfl,a,by simp only[E8,seval,hI]⟩
 case start=>exact⟨0,0,by simp only[E8,seval]<;>exact⟨rfl,rfl⟩,by omega,by omega⟩
 case rest =>
  rintro e st (⟨rfl,a,e,h,h',gJ⟩|⟨rfl,a,h⟩)
  ·simp only[Z8,seval];exact⟨_,dN rfl rfl rfl (by simp only[E8,seval,h,h']<;>rfl) (by simp only[E8,seval,h,h']<;>rfl),_,_,rfl,gJ⟩
  ·simp only[Z8,seval,h];exact⟨_,dN rfl rfl rfl (by simp only[E8,seval,h]<;>rfl) (by simp only[E8,seval,h]<;>rfl),_,_,rfl,by decide⟩
def aGF (t:Table) (b:Option (List Int)) (hb:t.iF=ov bF b) (hl:((ol b).length:Int)<1000000) (n:Int):∃r,aG prog 130 [.agg (bZ t),.v (.int .i64 n)]=some r/\∃e:Int,r=.v (.int .i64 e)/\e≠21/\(e=0->((ol b).length:Int)=n):=by
 obtain⟨r,hr,a,e,rfl,he⟩:=aLR b hl
 have O3:=kx hr (cP (dZ b)) (.eH _ (bB (.v _) (.v _)))
 rw[cL func130 rfl rfl];by_cases h1:((ol b).length:Int)=n
 ·by_cases h2:e=0
  ·by_cases h3:4611686018427387904<a
   all_goals
    simp only[Z8,seval,hb,bt h1,bt h2,h3,O3,dR];exact⟨_,bT rfl,_,rfl,by decide,fun _=>h1⟩
  ·simp only[Z8,seval,hb,bt h1,bf h2,O3,dR];exact⟨_,bT rfl,_,rfl,by decide,fun _=>h1⟩
 ·simp only[Z8,seval,hb,bf h1];exact⟨_,bT rfl,_,rfl,by decide,fun h=>by cases h⟩
def aPU (t:Table) (ht:rR t) (n:Int):∃r,aG prog 130 [.agg (bZ t),.v (.int .i64 n)]=some r/\∃e:Int,r=.v (.int .i64 e)/\e≠21:=by
 obtain⟨b,hb,hl⟩:=ht
 obtain⟨r,hr,e,h1,h2,_⟩:=aGF t b hb hl n
 exact⟨r,hr,e,h1,h2⟩
def Es (a b:dL):Int:=if a.aE=b.aE then Jp a.root b.root else if a.aE<b.aE then -1 else 1
def aPV (a b:dL):aG prog 131 [.agg (bG a),.agg (bG b)]=some (.v (.int .i64 (Es a b))):=by
 rw[cL func131 rfl rfl];refine iA ?_
 unfold Es;by_cases h1:a.aE=b.aE
 ·rw[if_pos h1];simp only[Z8,seval,bt h1,aHL];exact⟨_,bT rfl,rfl⟩
 ·rw[if_neg h1];by_cases h2:a.aE<b.aE
  all_goals
   simp only[Z8,seval,bf h1,h2];exact⟨_,bT rfl,rfl⟩
def aHN (a b:dL):KC 131 [.agg (bG a),.agg (bG b)] (.v (.int .i64 (Es a b))):=fun _ _=>bE (bB (.agg _ (bR a)) (.agg _ (bR b))) (aPV a b) (.v _)
def G4 {a b:dL}:Es a b<0↔a.aE<b.aE\/(a.aE=b.aE/\Jp a.root b.root<0):=by
 unfold Es;by_cases h:a.aE=b.aE
 ·rw[if_pos h];exact⟨fun g=>.inr ⟨h,g⟩,fun g=>g.elim (fun g=>by omega) And.right⟩
 ·rw[if_neg h];split
  ·rename_i g;exact⟨fun _=>.inl g,fun _=>by omega⟩
  ·exact⟨fun g=>by omega,fun g=>g.elim (fun g=>by omega) fun g=>absurd g.1 h⟩
def aAw {a b:dL} (h:¬Es a b<0) (hn:a≠b):Es b a<0:=by
 rw[G4] at h ⊢;by_cases e:a.aE=b.aE
 ·refine .inr ⟨e.symm,aAv (fun g=>h (.inr ⟨e,g⟩)) fun g=>hn ?_⟩
  cases a;cases b;simp only at e g;rw[e,g]
 ·exact .inl (by omega)
def G5 {a b c:dL} (h:Es a b<0) (g:Es b c<0):Es a c<0:=by
 rw[G4] at h g ⊢;rcases h with h|⟨h,h2⟩<;>rcases g with g|⟨g,g2⟩
 ·exact .inl (by omega)
 ·exact .inl (by omega)
 ·exact .inl (by omega)
 ·exact .inr ⟨by omega,aD9 h2 g2⟩
def YW {l:List Int} {n:Int} (h:Lk l n=0):l.Pairwise (· < ·)/\∀x∈l,0<=x/\x<n:=by
 unfold Lk at h;by_cases h0:l=[]
 ·rw[if_pos h0] at h;omega
 rw[if_neg h0] at h;rcases lS (Mu l n) l.length with ⟨_,hj⟩|⟨k,hk,h1,h2,e⟩
 ·have adj:∀j:Nat,j<l.length->(0<=gx (0:Int) l j/\gx (0:Int) l j<n)/\(0<j->gx (0:Int) l ((j:Int)-1)<gx (0:Int) l j):=fun j h=>by
   have:=hj j h
   unfold Mu at this;omega
  refine⟨?_,fun x hx=>?_⟩
  ·have key:∀d i:Nat,i+1+d<l.length->gx (0:Int) l i<gx (0:Int) l ((i+1+d:Nat):Int):=by
    intro d;induction d with
    | zero=>intro i hi;have:=(adj (i+1) hi).2 (by omega);rw[show (((i+1:Nat):Int)-1)=(i:Int) by omega] at this;exact this
    | succ d ih =>
      intro i hi;have h1:=ih i (by omega)
      have h2:=(adj (i+1+(d+1)) hi).2 (by omega)
      rw[show (((i+1+(d+1):Nat):Int)-1)=((i+1+d:Nat):Int) by omega] at h2
      omega
   refine pairwise_iff_getElem.2 fun i j hi hj hij=>?_
   have:=key (j-(i+1)) i (by omega)
   rw[show i+1+(j-(i+1))=j by omega] at this
   simpa [gx,hi,hj] using this
  ·obtain⟨k,hk,rfl⟩:=getElem_of_mem hx
   have:=(adj k hk).1
   simpa [gx,hk] using this
 ·rw[e,if_neg (by omega)] at h
  split at h<;>omega
def aHO {l:List Int} {n:Int} (h0:l≠[]) (h1:l.Pairwise (· < ·)) (h2:∀x∈l,0<=x/\x<n):Lk l n=0:=by
 unfold Lk;rw[if_neg h0,qN (p:=Mu l n) l.length,if_pos (by omega)]
 intro j hj;have e:gx (0:Int) l (j:Int)=l[j]:=by simp[gx,hj]
 have r:=h2 l[j] (getElem_mem hj)
 unfold Mu;rw[e];rintro (h|h|⟨h3,h⟩)
 ·omega
 ·omega
 ·have:=pairwise_iff_getElem.1 h1 (j-1) j (by omega) hj (by omega)
  rw[show ((j:Int)-1)=((j-1:Nat):Int) by omega,show gx (0:Int) l ((j-1:Nat):Int)=l[j-1] by simp[gx,show j-1<l.length by omega]] at h
  omega
end Go.Ab.Tryz
