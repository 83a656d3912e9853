/-
  Part 14 of the proof: an evaluator of programs, its soundness, and what functions of this program compute.
-/
import Derived.Test.YtmcjkemalibacaaGreatK13
import Derived.Test.YtmcjkemalibacaaGreatK11
import Derived.Test.YtmcjkemalibacaaGreatK10
set_option linter.all false
set_option maxRecDepth 20000
set_option maxHeartbeats 40000000
open Go.IntKind (i64 u64 u8)
open List Go.Proofs.Tryz
namespace Go.Ab.Tryz
open Classical Go.Proofs Go.Ab
def ZI {l:List Int} {n:Int} (h:Lk l n=0):∀x∈l,0<=x/\x<n:=by
 intro x hx;unfold Lk at h;have gJ:l≠[]:=fun e=>by subst e;cases hx
 rw[if_neg gJ] at h;by_cases g:sZ (Mu l n) l.length<0
 ·rcases lS (Mu l n) l.length with ⟨_,hj⟩|⟨k,h1,_,_,h3⟩
  ·obtain⟨j,hj1,rfl⟩:=getElem_of_mem hx
   have hb:=hj j hj1
   have e:gx (0:Int) l j=l[j]:=by simp[gx,hj1]
   unfold Mu at hb;rw[e] at hb;omega
  ·omega
 ·rw[if_neg g] at h;split at h<;>omega
def BP {s:aL} {v:SV} {a:rX} {V:List Int} (h:(Iw s v a V).2=0):Lk V (ol v.B).length=0:=by
 unfold Iw at h;by_cases g:Lk V (ol v.B).length≠0
 ·rw[if_pos g] at h;exact h
 ·exact Classical.not_not.1 g
def GI.cast {s:aL} {v:SV} {q:Int} (h:GI s v q) (a:rX) (V:List Int):GI (Rl s v a V) { v with L:=some (uA (ol v.L) a.target.aE a.root V).1 } q:=by
 have hl:(uA (ol v.L) a.target.aE a.root V).1.length=(ol v.L).length:=Up _ _ _ _
 exact⟨⟨h.sd.iF,rfl,h.sd.gA,h.sd.early,h.sd.bN,h.sd.tree,h.sd.tables,h.sd.eV,h.sd.tB,h.sd.nB,by show ((uA (ol v.L) a.target.aE a.root V).1.length:Int)<1000000;rw[hl];exact h.sd.nL,h.sd.nQ,h.sd.nE,h.sd.nO,h.sd.nT,h.sd.nn⟩,h.up,h.Ww,h.pos,h.nl,h.PK,h.jS,hl.trans h.JB,h.nB,h.nO,h.LJ,h.nE,h.PL,h.nT,h.PM,h.nQ,h.O7,h.eI⟩
def xY (s:aL) (x:AV):aL:={ s with cM:={ s.cM with early:=x }}
def ZJ {e sz n:Nat} {cs:List AV} (h:¬ ∀c∈cs,Flat c):jN (some (.row e sz n cs))=none:=by
 unfold jN;simp only[if_neg h]
def aH5 {a:rX} {x g:Nat} (h:a.eM=.own x g) (l:List rX):¬ ∀c∈dT (l++[a]),Flat c:=by
 intro hf;have hm:AV.own x g∈dT (l++[a]):=by
  unfold dT;rw[flatMap_append,mem_append];refine .inr ?_
  rw[flatMap_cons,flatMap_nil,append_nil];unfold iD;rw[h];simp
 have:=hf _ hm
 cases this
def lU {α:Type} {a b:List (Option α)} {x y:List α} (ha:cK a=some x) (hb:cK b=some y):cK (a++b)=some (x++y):=by
 induction a generalizing x with
 | nil=>simp only[fY,aAk] at ha;subst ha;simpa using hb
 | cons c a ih =>
   cases c with
   | none=>simp[cK] at ha
   | some c =>
     rw[bK] at ha;simp only[Option.map_eq_some_iff] at ha;obtain⟨z,hz,rfl⟩:=ha
     rw[cons_append,bK,ih hz];rfl
def Ez {cs:List AV} {f:AV->Option AV} (h:∀c∈cs,f c=some c):cK (cs.map f)=some cs:=by
 induction cs with
 | nil=>rfl
 | cons c cs ih=>rw[map_cons,h c (mem_cons_self ..),bK,ih fun x hx=>h x (mem_cons_of_mem _ hx)];rfl
def BR {st:St} {c:AV} (h:Flat c):cN st c=some c:=by unfold cN;rw[if_pos h]
def aAU {st:St} {c:AV} (h:Flat c):Ee st c=some c:=by
 unfold Ee;cases h<;>exact BR (by constructor;try assumption)
def P6 {s:aL} {v:SV} (h:SD s v) (st:St) {E:List rX} (hE:∀x∈E,Flat x.eM) {a:rX} {V:List Int} {x g x' g' n:Nat}
 (hh:st.heap x g=some (.row 87 67 n (dT (E++[{ a with eM:=.own x' g' }])))) (vP:st.heap x' g'=some (.row 3 1 V.length (aM V))) :
 Ql st (.agg (aA (xY s (.own x g))))=some (.agg (aA (xY s (.sl n (dT (E++[{ a with eM:=ov aM (some V)}])))))):=by
 obtain⟨h1,h2,h3,h4,h5,h6,h7⟩:=h.fl
 have fl:∀ {cs:List AV},(∀c∈cs,Flat c)->cK (cs.map (Ee st))=some cs:=fun hc=>Ez fun c m=>aAU (hc c m)
 have fl1:∀ {cs:List AV},(∀c∈cs,Flat c)->cK (cs.map (cN st))=some cs:=fun hc=>Ez fun c m=>BR (hc c m)
 have hv:cN st (.own x' g')=some (ov aM (some V)):=by rw[bM,vP];exact kE _ _
 have hatt:cK ((dT (E++[{ a with eM:=.own x' g' }])).map (cN st))=some (dT (E++[{ a with eM:=ov aM (some V)}])):=by
  unfold dT;rw[flatMap_append,flatMap_append,map_append];refine lU (fl1 (tO E hE)) ?_
  simp only[flatMap_cons,flatMap_nil,append_nil];unfold iD;rw[map_append,map_append,map_append];refine lU (fl1 (eD _)) (lU (fl1 (dY _)) (lU (fl1 (bR _)) ?_))
  rw[map_cons,map_nil,hv];rfl
 have hea:Ee st (.own x g)=some (.sl n (dT (E++[{ a with eM:=ov aM (some V)}]))):=by
  unfold Ee;simp only[hh,hatt];rfl
 unfold Ql;simp only
 have:cK ((aA (xY s (.own x g))).map (Ee st))=some (aA (xY s (.sl n (dT (E++[{ a with eM:=ov aM (some V)}]))))):=by
  unfold xY aA jZ;simp only[map_append];refine lU (fl (uU _ h1)) (lU (fl (pK _ h2 h3)) (lU (fl (lG _)) (lU (lU ?_ (fl (by simpa using h5))) (lU (fl (xW _ h6)) (lU (fl (eD _)) (lU (fl (dY _)) (fl (by simpa using h7))))))))
  rw[map_cons,map_nil,hea];rfl
 rw[this];rfl
def aAV {s:aL} {v:SV} (h:SD s v) (st:St) {E:List rX} {a:rX} {x g x' g' n:Nat} (ha:a.eM=.own x' g')
 (hh:st.heap x g=some (.row 87 67 n (dT (E++[a])))):fS st (.agg (aA (xY s (.own x g))))=none:=by
 have pH:=h.fl
 have hn:=ZJ (e:=87) (sz:=67) (n:=n) (aH5 ha E)
 unfold xY;simp only[bP,gH,bM,hh,hn,cY,jE,pH,cF,Ba]
def GI.early {s:aL} {v:SV} {q:Int} (h:GI s v q) (E:Option (List rX)) (hE:∀a∈ol E,Er a) (hn:((ol E).length:Int)<=s.cFg.kU.pW):GI (xY s (ov dT E)) { v with E:=E } q :=
 ⟨⟨h.sd.iF,h.sd.dS,h.sd.gA,rfl,h.sd.bN,h.sd.tree,h.sd.tables,hE,h.sd.tB,h.sd.nB,h.sd.nL,h.sd.nQ,by have:=h.PL;show ((ol E).length:Int)<1000000;omega,h.sd.nO,h.sd.nT,h.sd.nn⟩,h.up,h.Ww,h.pos,h.nl,h.PK,h.jS,h.JB,h.nB,h.nO,h.LJ,hn,h.PL,h.nT,h.PM,h.nQ,h.O7,h.eI⟩
def aH6 (s:aL) (v:SV) (a:rX) (V:List Int):(Iw s v a V).2≠21:=by
 unfold Iw;split
 ·exact YV _ _
 repeat (split;simp)
 simp
def aQv {s:aL} {v:SV} {q:Int} (h:GI s v q) (r:RG s v) (a:rX) (V:Option (List Int)) (hV:a.eM=ov aM V) (nV:((ol V).length:Int)<99999) :
 ∃r,aG prog 204 [.agg (aA s),.agg (iD a)]=some r/\StN s v q r:=by
 have hf:=h.sd.flat
 have pH:=h.sd.fl
 have hz:=Ln
 have fa:Flat (.agg (iD a)):=(Ax a).2 (by rw[hV];exact bQ V)
 have k39:=kx (c39 h.sd h.up h.sp a V hV (by omega)) (bB hf fa) (.eH _ (bB (.v _) (.v _)))
 rw[cL func204 rfl rfl];by_cases g1:(Iw s v a (ol V)).2=0
 case neg =>
  simp only[Z8,seval,k39,dR,bf g1];exact⟨_,by apply dN;rfl;all_goals simp only[aJ,bY,Z8,seval,hz]<;>rfl,gC,_,rfl,hz,aH6 _ _ _ _,fun h=>absurd h g1⟩
 cases g2:(Iw s v a (ol V)).1
 ·have hr:∀x∈ol V,0<=x/\x<(ol v.L).length:=by rw[h.JB];exact ZI (BP g1)
  have h':=h.cast a (ol V)
  have P5:=h'.sd.flat
  have k44:=kx (c44 h.sd a V hV (by omega) hr) (bB hf fa) P5
  simp only[Z8,seval,k39,dR,bt g1,g2,k44];exact⟨_,by apply dN;rfl;all_goals simp only[aJ,bY,Z8,seval,P5]<;>rfl,_,0,rfl,P5,by decide,fun _=>⟨_,h',⟨⟨r.now,r.j,r.f,r.nd,r.or,r.rt,r.fe,r.ds,r.tb,⟨r.ne.q,r.ne.e,r.ne.o,r.ne.t,r.ne.ea,r.ne.tb⟩,r.vs.cast a (ol V)⟩,r.op⟩,rfl,rfl⟩⟩
 ·by_cases g3:s.cFg.kU.pW<=((ol v.E).length:Int)
  ·simp only[Z8,seval,k39,dR,bt g1,g2,h.sd.early,g3];exact⟨_,by apply dN;rfl;all_goals simp only[aJ,bY,Z8,seval,hz]<;>rfl,gC,11,rfl,hz,by decide,fun h=>by cases h⟩
  ·have hE:∀b∈ol (some (ol v.E++[{ a with eM:=ov aM (some (ol V))}])),Er b:=by
    intro b hb;rcases mem_append.1 (show b∈ol v.E++[{ a with eM:=ov aM (some (ol V))}] from hb) with hb|hb
    ·exact h.sd.eV b hb
    ·rw[mem_singleton] at hb;subst hb;exact⟨some (ol V),rfl,by show ((ol V).length:Int)<_;omega⟩
   have hVne:ol V≠[]:=fun e=>by have h0:=BP g1;rw[e] at h0;simp[Lk] at h0
   have hEa:∀b∈ol (some (ol v.E++[{ a with eM:=ov aM (some (ol V))}])),∃W,b.eM=ov aM (some W)/\W≠[]:=by
    intro b hb;rcases mem_append.1 (show b∈ol v.E++[{ a with eM:=ov aM (some (ol V))}] from hb) with hb|hb
    ·exact r.ne.ea b hb
    ·rw[mem_singleton] at hb;subst hb;exact⟨ol V,rfl,hVne⟩
   have hEv:∀b∈ol (some (ol v.E++[{ a with eM:=ov aM (some (ol V))}])),∃W,b.eM=ov aM (some W)/\Lk W (ol v.B).length=0:=by
    intro b hb;rcases mem_append.1 (show b∈ol v.E++[{ a with eM:=ov aM (some (ol V))}] from hb) with hb|hb
    ·exact r.vs.ea b hb
    ·rw[mem_singleton] at hb;subst hb;exact⟨ol V,rfl,BP g1⟩
   have hVE:=r.vs.early (some (ol v.E++[{ a with eM:=ov aM (some (ol V))}])) (ov dT (some (ol v.E++[{ a with eM:=ov aM (some (ol V))}]))) hEv
   have h':=h.early (some (ol v.E++[{ a with eM:=ov aM (some (ol V))}])) hE (by show (((ol v.E++[{ a with eM:=ov aM (some (ol V))}]).length:Nat):Int)<=_;rw[length_append,length_cons,length_nil];omega)
   have P5:=h'.sd.flat
   have nE:=h.sd.nE
   have hEf:∀x∈ol v.E,Flat x.eM:=fun x m=>(h.sd.eV x m).fl
   simp only[Z8,seval,k39,dR,bt g1,g2,h.sd.early,g3,hV,Rn _ (show ((ol V).length:Int)<1000000 by omega),H6 _ nE,Zj _ _ _ _ nE]
   have hlen:(ol v.E++[{ a with eM:=.own 35 0 }]).length=(ol v.E++[{ a with eM:=ov aM (some (ol V))}]).length:=by rw[length_append,length_append];rfl
   exact⟨_,aMb rfl (by simp only[bY,Z8,seval]<;>rfl) (by simp only[bY,E8,seval]<;>rfl)
    (aAV h.sd _ rfl (by simp only[E8,seval]<;>rfl)) (P6 (x':=35) (g':=0) h.sd _ hEf (by simp only[E8,seval,hlen]<;>rfl) (by simp only[E8,seval]<;>rfl)) (by simp only[Z8,seval]<;>rfl),_,0,rfl,P5,by decide,fun _=>⟨_,h',⟨⟨r.now,r.j,r.f,r.nd,r.or,r.rt,r.fe,r.ds,r.tb,⟨r.ne.q,by simp,r.ne.o,r.ne.t,hEa,r.ne.tb⟩,hVE⟩,r.op⟩,rfl,rfl⟩⟩
def aQx (ns:List Node) (hu:fK ns) (hr:(nd ns 0).up=-1) (hn:(ns.length:Int)<1000000) (w:List Int) (hw:w.length=ns.length) (b:List Bool) (hb:b.length=ns.length) (i:Int) :
 ∃r,aG prog 225 [.agg (cH ⟨ns⟩),.sl w.length (bF w),.sl b.length (nG b),.v (.int .i64 i)]=some r/\∃k:Int,r=.v (.int .i64 k)/\(k=-1\/(i<k/\0<=k/\k<ns.length)):=by
 rw[cL func225 rfl rfl];by_cases hc:xV ns i=[]
 ·have kc:=fun st d=>aGv ns hu hr hn i hc st d
  simp only[Z8,seval,kc];refine cA (fun m st=>st.env 9=.v (.int .i64 (-1))/\st.env 10=.v (.slice none 0 0)/\st.env 11=.v (.int .i64 0)/\m=0) (fun e st=>e=.exit 0/\st.env 9=.v (.int .i64 (-1))) 0 ?step ?start ?rest
  case step =>
   rintro m st ⟨h9,h10,h11,_⟩
   apply oT (.exit 0)
   ·simp only[Z8,seval,h9,h10,h11,Int.lt_irrefl];rfl
   ·exact⟨rfl,by simp only[E8,seval,h9]⟩
  case start=>exact⟨by simp only[E8,seval]<;>rfl,by simp only[E8,seval]<;>rfl,by simp only[E8,seval]<;>rfl,rfl⟩
  case rest =>
   rintro e st ⟨rfl,h9⟩
   simp only[Z8,seval,h9];exact⟨_,bT rfl (by simp only[E8,seval,h9]<;>rfl) (by first|exact .v _|simp only[jE,h9]),-1,rfl,.inl rfl⟩
 have kc:=fun st d=>aLy ns hu hr hn i hc st d
 have hgt:∀x∈xV ns i,i<x/\0<=x/\x<ns.length:=fun x hx=>LN hu hr hx
 have hin:((xV ns i).length:Int)<1000000:=by
  have h1:(xV ns i).length<=ns.length:=by
   unfold xV;split
   ·simp
   ·exact Zd ns i ns.length
  omega
 obtain⟨l,el⟩:∃l,xV ns i=l:=⟨_,rfl⟩
 rw[el] at kc hgt hin;simp only[Z8,seval,kc];refine cA (fun m st=>∃(k:Nat) (yW:Int),(st.env 4=.ptr 4 0 0/\st.heap 4 0=some (.cells (cH ⟨ns⟩))/\st.env 1=.sl w.length (bF w)/\st.env 2=.sl b.length (nG b)/\st.env 10=.own 15 0/\st.heap 15 0=some (.row 3 1 l.length (aM l))/\st.env 9=.v (.int .i64 yW)/\st.env 11=.v (.int .i64 k))/\(yW=-1\/(i<yW/\0<=yW/\yW<ns.length))/\k<=l.length/\m=l.length-k)
  (fun e st=>e=.exit 0/\∃yW:Int,st.env 9=.v (.int .i64 yW)/\(yW=-1\/(i<yW/\0<=yW/\yW<ns.length))) l.length ?step ?start ?rest
 case step =>
  rintro m st ⟨k,yW,hI,JI,hk,hm⟩
  by_cases aW:(k:Int)<l.length
  case neg =>
   apply oT (.exit 0)
   ·simp only[Z8,seval,hI,aW];rfl
   ·exact⟨rfl,yW,by simp only[E8,seval,hI],JI⟩
  have q0:(0:Int)<=k:=by omega
  have hwr:=wk (k:=k) (by omega)
  have gi:=oI q0 aW
  obtain⟨c,ec⟩:∃c,it l (k:Int)=c:=⟨_,rfl⟩
  have hc:=hgt c (by rw[<- ec];obtain⟨h1,h2⟩:=yR q0 aW;rw[h2];exact getElem_mem h1)
  obtain⟨c0,c1,c2⟩:=hc
  have c3:c<(w.length:Int):=by rw[hw];exact c2
  have c4:c<(b.length:Int):=by rw[hb];exact c2
  cases g1:gx false b c
  ·apply oN (l.length-(k+1))
   ·simp only[Z8,seval,hI,aW,q0,gi,ec,c1,c3,c4,g1,hwr,mN,mO];rfl
   ·exact⟨k+1,yW,by simp only[E8,seval,hI],JI,by omega,rfl⟩
  by_cases g2:yW<0
  ·apply oN (l.length-(k+1))
   ·simp only[Z8,seval,hI,aW,q0,gi,ec,c1,c3,c4,g1,g2,hwr,mN,mO];rfl
   ·exact⟨k+1,c,by simp only[E8,seval,hI],.inr ⟨c0,c1,c2⟩,by omega,rfl⟩
  have b1:0<=yW:=by omega
  have b2:yW<ns.length:=by omega
  have b3:yW<(w.length:Int):=by rw[hw];exact b2
  by_cases g3:gx (0:Int) w yW<gx (0:Int) w c
  ·apply oN (l.length-(k+1))
   ·simp only[Z8,seval,hI,aW,q0,gi,ec,c1,c3,c4,g1,g2,b1,b3,g3,hwr,mN,mO];rfl
   ·exact⟨k+1,c,by simp only[E8,seval,hI],.inr ⟨c0,c1,c2⟩,by omega,rfl⟩
  by_cases g4:gx (0:Int) w c=gx (0:Int) w yW
  case neg =>
   apply oN (l.length-(k+1))
   ·simp only[Z8,seval,hI,aW,q0,gi,ec,c1,c3,c4,g1,g2,b1,b3,g3,bf g4,hwr,mN,mO];rfl
   ·exact⟨k+1,yW,by simp only[E8,seval,hI],JI,by omega,rfl⟩
  by_cases g5:0<Jp (nd ns c).block.root (nd ns yW).block.root
  ·apply oN (l.length-(k+1))
   ·simp only[Z8,seval,hI,aW,q0,gi,ec,c1,c2,c3,c4,g1,g2,b1,b2,b3,g3,bt g4,aHL,g5,hwr,mN,mO];rfl
   ·exact⟨k+1,c,by simp only[E8,seval,hI],.inr ⟨c0,c1,c2⟩,by omega,rfl⟩
  ·apply oN (l.length-(k+1))
   ·simp only[Z8,seval,hI,aW,q0,gi,ec,c1,c2,c3,c4,g1,g2,b1,b2,b3,g3,bt g4,aHL,g5,hwr,mN,mO];rfl
   ·exact⟨k+1,yW,by simp only[E8,seval,hI],JI,by omega,rfl⟩
 case start=>exact⟨0,-1,by simp only[E8,seval]<;>rfl,.inl rfl,by omega,by omega⟩
 case rest =>
  rintro e st ⟨rfl,yW,h9,JI⟩
  simp only[Z8,seval,h9];exact⟨_,bT rfl (by simp only[E8,seval,h9]<;>rfl) (by first|exact .v _|simp only[jE,h9]),yW,rfl,JI⟩
def aQy {s:aL} {v:SV} {q:Int} (h:GI s v q):∃r,aG prog 208 [.agg (aA s)]=some r/\∃k:Int,r=.v (.int .i64 k)/\0<=k/\k<v.ns.length:=by
 have hf:=h.sd.flat
 have hn:=h.sd.nn
 obtain⟨r1,e1,w,rfl,hw⟩:=aQk h
 obtain⟨r2,e2,b,rfl,hb⟩:=aQo h
 have k223:∀(st:St) (d:Nat),bH (aG prog) 223 [.agg (aA s)] st (some d)=_:=fun st d=>jM (st:=st) (d:=d) (cP hf) e1
 have k224:∀(st:St) (d:Nat),bH (aG prog) 224 [.agg (aA s)] st (some d)=_:=fun st d=>jM (st:=st) (d:=d) (cP hf) e2
 have hB:∀i:Int,∃k:Int,aG prog 225 [.agg (cH ⟨v.ns⟩),.sl w.length (bF w),.sl b.length (nG b),.v (.int .i64 i)]=some (.v (.int .i64 k))/\(k=-1\/(i<k/\0<=k/\k<v.ns.length)):=fun i=>by
  obtain⟨r,hr,k,rfl,hk⟩:=aQx v.ns h.up h.Ww hn w hw b hb i
  exact⟨k,hr,hk⟩
 have kB:∀(i:Int) (k:Int),aG prog 225 [.agg (cH ⟨v.ns⟩),.sl w.length (bF w),.sl b.length (nG b),.v (.int .i64 i)]=some (.v (.int .i64 k))->∀(st:St) (g1 g2:Nat) (d:Option Nat),st.heap 8 g1=some (.row 23 1 w.length (bF w))->st.heap 10 g2=some (.row 4 1 b.length (nG b)) ->
  bH (aG prog) 225 [.agg (cH ⟨v.ns⟩),.own 8 g1,.own 10 g2,.v (.int .i64 i)] st d=some { dst:=d,val:=.v (.int .i64 k)}:=by
  intro i k hk st g1 g2 d hh1 vP;rw[jY,map_cons,map_cons,map_cons,map_cons,map_nil,Lo,wN,hh1,vA,wN,vP,H7,Oq,bK,bK,bK,bK,fY];exact Wy hk
 rw[cL func208 rfl rfl];simp only[Z8,seval,k223,k224,h.sd.tree,lY _ _ hn];refine cA (fun m st=>∃i:Int,(st.env 1=.ptr 1 0 0/\st.heap 1 0=some (.cells (aA s))/\st.env 3=.own 8 0/\st.heap 8 0=some (.row 23 1 w.length (bF w))/\st.env 4=.own 10 0/\st.heap 10 0=some (.row 4 1 b.length (nG b))/\st.env 5=.v (.int .i64 i))/\0<=i/\i<v.ns.length/\m=v.ns.length-i.toNat)
  (fun e st=>e=.ret/\∃i:Int,st.env 2=.v (.int .i64 i)/\0<=i/\i<v.ns.length) (v.ns.length-(aC v.ns s.aI.eI.root).toNat) ?step ?start ?rest
 case step =>
  rintro m st ⟨i,hI,i0,i1,hm⟩
  obtain⟨k,hk,hkk⟩:=hB i
  have kb:=kB i k hk
  by_cases aW:k<0
  ·apply oT (.ret)
   ·simp only[Z8,seval,hI,h.sd.tree,kb,aW];rfl
   ·exact⟨rfl,i,by simp only[E8,seval],i0,i1⟩
  ·apply oN (v.ns.length-k.toNat)
   ·simp only[Z8,seval,hI,h.sd.tree,kb,aW];rfl
   ·exact⟨k,by simp only[E8,seval,hI],by omega,by omega,rfl⟩
 case start=>exact⟨_,by simp only[E8,seval]<;>rfl,h.eI,(cS _ _).2,rfl⟩
 case rest =>
  rintro e st ⟨rfl,i,h2,i0,i1⟩
  simp only[Z8,seval];exact⟨_,bT rfl (by simp only[E8,seval,h2]<;>rfl) (by first|exact .v _|simp only[jE,h2]),i,rfl,i0,i1⟩
def ZK (r:Command):Flat (.agg (eN r))=True:=eq_true (.agg _ (tA r))
def aQz {s:aL} {v:SV} {q:Int} (h:GI s v q):∃r,aG prog 199 [.agg (aA s)]=some r/\∃c:Command,r=.agg (eN c):=by
 have hf:=h.sd.flat
 obtain⟨r1,e1,k,rfl,k0,k1⟩:=aQy h
 have k208:=kx e1 (cP hf) (.v _)
 obtain⟨r2,e2,r,rfl⟩:=aQb h.sd
 have k209:=kx e2 (cP hf) (rH r)
 rw[cL func199 rfl rfl];simp only[Z8,seval,k208,k209,h.sd.tree,k0,k1];exact⟨_,fM rfl (by simp only[E8,seval,ZK]<;>rfl) (by simp only[Z8,seval,ZK]<;>rfl) (by simp only[jE,and_self,ZK]),_,rfl⟩
def aMd (t:State) (hf:Flat (.agg (aP t))) {v:SV} {q:Int} (h:GI t.store v q):∃r,aG prog 181 [.agg (aP t)]=some r/\∃(b:Bool) (c:Command) (y:AV),r=.eH [.agg (aP { t with Ox:=b,last:=c }),y]/\Flat y:=by
 have E9:=h.sd.flat
 have pH:=(uV t).1 hf
 obtain⟨r1,e1,c,rfl⟩:=aQz h
 have aH9:=kx e1 (cP E9) (.agg _ (tA c))
 have hfc:∀x∈eN c,Flat x:=tA c
 have ex:jN (some (.row 56 96 1 (eN c)))=some (.sl 1 (eN c)):=by
  unfold jN;simp only[if_pos hfc]
 rw[cG func181 rfl rfl]
 have P5:Flat (.agg (aP { t with Ox:=true,last:=c })):=(uV _).2 pH
 cases g1:t.Ox
 ·simp only[ZG,seval,aAW,aH9,g1];exact⟨_,by apply dN;rfl;all_goals simp only[aJ,bY,Z8,seval,P5,ex]<;>rfl,true,c,_,rfl,.sl _ _ hfc⟩
 ·by_cases g2:t.last=c
  ·simp only[ZG,seval,aAW,aH9,g1,g2];exact⟨_,by apply dN;rfl;all_goals simp only[aJ,bY,Z8,seval,hf]<;>rfl,t.Ox,t.last,_,rfl,.v _⟩
  ·simp only[ZG,seval,aAW,aH9,g1,g2];exact⟨_,by apply dN;rfl;all_goals simp only[aJ,bY,Z8,seval,P5,ex]<;>rfl,true,c,_,rfl,.sl _ _ hfc⟩
def wrap_u64 (x:Int) (h1:0<=x) (h2:x<18446744073709551616):u64.wrap x=x:=by
 unfold IntKind.wrap;simp[IntKind.signed,IntKind.bits]
 omega
def aMe (o:Option (List Int)) (hn:((ol o).length:Int)<=1000) (hb:∀x∈ol o,0<=x/\x<=1000):∃a:Int,aG prog 175 [ov bF o]=some (.eH [.v (.int .u64 a),.v (.int .i64 0)])/\0<=a/\a<=1000000:=by
 suffices h:∃r,aG prog 175 [ov bF o]=some r/\∃a:Int,r=.eH [.v (.int .u64 a),.v (.int .i64 0)]/\0<=a/\a<=1000000 by
  obtain⟨r,h,a,rfl,h1⟩:=h;exact⟨a,h,h1⟩
 have add:∀(a:Int) (k:Nat),0<=a/\a<=1000 * k->k<(ol o).length->FM a (gx (0:Int) (ol o) (k:Int))=(a+gx (0:Int) (ol o) (k:Int),0)/\0<=a+gx (0:Int) (ol o) (k:Int)/\a+gx (0:Int) (ol o) (k:Int)<=1000 * ((k+1:Nat):Int):=by
  intro a k ha hk;have hx:=hb _ (nC (z:=(0:Int)) (show (0:Int)<=k by omega) (show (k:Int)<(ol o).length by omega))
  obtain⟨x,ex⟩:∃x,gx (0:Int) (ol o) (k:Int)=x:=⟨_,rfl⟩
  rw[ex] at hx ⊢;have w1:u64.wrap (18446744073709551615-x)=18446744073709551615-x:=wrap_u64 _ (by omega) (by omega)
  have w2:u64.wrap (a+x)=a+x:=wrap_u64 _ (by omega) (by omega)
  unfold FM;rw[w1,w2,if_neg (by omega)]
  exact⟨rfl,by omega,by omega⟩
 rw[cL func175 rfl (by cases o<;>rfl)]
 simp only[Z8,seval];refine cA (fun m st=>∃(k:Nat) (a:Int),(st.env 0=ov bF o/\st.env 4=.v (.int .u64 a)/\st.env 5=.v (.int .i64 k))/\(0<=a/\a<=1000 * k)/\k<=(ol o).length/\m=(ol o).length-k)
  (fun e st=>e=.exit 0/\∃a:Int,st.env 4=.v (.int .u64 a)/\0<=a/\a<=1000000) (ol o).length ?step ?start ?rest
 case step =>
  rintro m st ⟨k,a,hI,ha,hk,hm⟩
  by_cases aW:(k:Int)<(ol o).length
  ·have q0:(0:Int)<=k:=by omega
   have hw:=wk (k:=k) (by omega)
   obtain⟨h1,h2⟩:=add a k ha (by omega)
   apply oN ((ol o).length-(k+1))
   ·simp only[Z8,seval,hI,aW,q0,aHv,dR,h1,hw];rfl
   ·exact⟨k+1,_,by simp only[E8,seval,hI]<;>rfl,h2,by omega,rfl⟩
  ·apply oT (.exit 0)
   ·simp only[Z8,seval,hI,aW];rfl
   ·exact⟨rfl,a,by simp only[E8,seval,hI],by omega⟩
 case start=>exact⟨0,0,by simp only[E8,seval]<;>exact⟨rfl,rfl⟩,by omega,by omega,by omega⟩
 case rest =>
  rintro e st ⟨rfl,a,h,ha⟩
  simp only[Z8,seval,h];exact⟨_,dN rfl rfl rfl (by simp only[E8,seval,h]<;>rfl) (by simp only[E8,seval,h]<;>rfl),_,rfl,ha⟩
def aGN (t:Table) (b:Option (List Int)) (ht:t.iF=ov bF b) (hn:((ol b).length:Int)<=1000) (hb:∀x∈ol b,0<=x/\x<=1000):aG prog 130 [.agg (bZ t),.v (.int .i64 (ol b).length)]=some (.v (.int .i64 0)):=by
 obtain⟨a,hr,a0,a1⟩:=aMe b hn hb
 have O3:=kx hr (cP (dZ b)) (.eH _ (bB (.v _) (.v _)))
 rw[cL func130 rfl rfl];refine iA ?_
 have h3:(4611686018427387904<a)=False:=eq_false (by omega)
 simp only[Z8,seval,ht,bt (rfl:((ol b).length:Int)=(ol b).length),O3,dR,h3];exact⟨_,bT rfl,rfl⟩
def aEm:mkRoot 1≠cO:=by decide
structure Bb (c:Config) (b:List Int):Prop where
 iF:c.iF=ov bF (some b)
 nb:1<=b.length/\b.length<=64
 bv:∀x∈b,0<=x/\x<=1000
 jS:1<=c.jS/\c.jS<=64
 bp:c.Js<=100
 sL:1<=c.kU.sL/\c.kU.sL<=4096
 vU:0<=c.kU.vU/\c.kU.vU<=64
 pW:0<=c.kU.pW/\c.kU.pW<=256
 nD:1<=c.kU.nD/\c.kU.nD<=64
 oZ:0<=c.kU.oZ/\c.kU.oZ<=256
 back:1<=c.kU.rY/\c.kU.rY<=1048576
 gen:c.cV=mkRoot 1
 n6:6<=c.kU.sL
def aIa (n:Nat):((List.range n).flatMap fun _=>jT pN)=dE (List.replicate n pN):=by
 induction n with
 | zero=>rfl
 | succ n ih=>rw[range_succ,flatMap_append,ih,replicate_succ',dE,dE,flatMap_append];simp
def RN (t:Table):aN [t]=bZ t:=by simp[aN]
def FQ (c:Config):Block:={ dO with root:=c.cV,eI:=⟨0,c.cV⟩,fin:=⟨0,c.cV⟩,dW:=⟨⟨0,c.cV⟩,⟨0,c.cV⟩⟩}
def yX (c:Config) (b:List Int):aL:=⟨c,⟨ov dE (some (List.replicate b.length pN)),.v (.slice none 0 0)⟩,⟨⟨0,c.cV⟩,⟨0,c.cV⟩⟩,Hc,⟨.sl 1 (bV [⟨FQ c,-1,1⟩])⟩,0,cO,ov aN (some [⟨⟨0,c.cV⟩,ov bF (some b)⟩])⟩
def wP (c:Config) (b:List Int):SV:={ B:=some b,L:=some (List.replicate b.length pN),Q:=none,E:=none,O:=none,ns:=[⟨FQ c,-1,1⟩],T:=some [⟨⟨0,c.cV⟩,ov bF (some b)⟩]}
def GI.new {c:Config} {b:List Int} (h:Bb c b):GI (yX c b) (wP c b) 0:=by
 have hb:=h.nb
 refine⟨⟨h.iF,rfl,rfl,rfl,rfl,rfl,rfl, ?_, ?_, ?_, ?_, ?_, ?_, ?_, ?_, ?_⟩, ?_, ?_, ?_, ?_,h.sL.2,h.jS, ?_, ?_, ?_,h.vU.2, ?_,h.pW.2, ?_,h.nD.2, ?_,by omega, ?_⟩
 ·intro a ha;cases ha
 ·intro t ht;rw[show t=⟨⟨0,c.cV⟩,ov bF (some b)⟩ by simpa [wP,ol] using ht]
  exact⟨some b,rfl,by show (b.length:Int)<_;omega⟩
 ·show (b.length:Int)<_;omega
 ·show ((List.replicate b.length pN).length:Int)<_;rw[length_replicate];omega
 ·show ((0:Nat):Int)<_;omega
 ·show ((0:Nat):Int)<_;omega
 ·show ((0:Nat):Int)<_;omega
 ·show ((1:Nat):Int)<_;omega
 ·show ((1:Nat):Int)<_;omega
 ·intro i h0 h1;have:i<((1:Nat):Int):=h1;omega
 ·rfl
 ·show 0<1;omega
 ·show ((1:Nat):Int)<=c.kU.sL;have:=h.sL.1;omega
 ·show (List.replicate b.length pN).length=b.length;rw[length_replicate]
 ·show (b.length:Int)<=1024;omega
 ·show ((0:Nat):Int)<=c.kU.vU;have:=h.vU.1;omega
 ·show ((0:Nat):Int)<=c.kU.pW;have:=h.pW.1;omega
 ·show ((1:Nat):Int)<=c.kU.nD;have:=h.nD.1;omega
 ·show ((0:Nat):Int)<=0;omega
 ·exact Ev (j:=0) (by omega) (by show (0:Int)<((1:Nat):Int);omega) rfl
def aIb {c:Config} {b:List Int} (h:Bb c b):aG prog 102 [.agg (bX c)]=some (.eH [.agg (aA (yX c b)),.v (.int .i64 0)]):=by
 obtain⟨aEn,hnb,hbv,hspe,hbp,h1,h2,h3,h4,h5,h6,hg0,_⟩:=h
 have hg:c.cV≠cO:=by rw[hg0];exact aEm
 have f1:=hspe.1;have f2:¬64<c.jS:=by omega
 have f1':¬c.jS<1:=by omega
 have f3:¬100<c.Js:=by omega
 have f4:¬(1024:Int)<(b.length:Int):=by omega
 have f6:¬c.kU.rY<1:=by omega
 have f7:¬1048576<c.kU.rY:=by omega
 have n1:((ol (some b)).length:Int)<1000000:=by show (b.length:Int)<_;omega
 have hb0:(0:Int)<=(b.length:Int):=by omega
 have XY:(b.length:Int) * 48<=140737488355328:=by omega
 have E6:(b.length:Int)<=(maxLen:Int):=by unfold maxLen;omega
 have zE:gM.aE=0:=rfl
 have kt:∀(st:St) (d:Option Nat),bH (aG prog) 130 [.agg (bZ ⟨⟨0,c.cV⟩,ov bF (some b)⟩),.v (.int .i64 b.length)] st d=some { dst:=d,val:=.v (.int .i64 0)}:=kx (aGN ⟨⟨0,c.cV⟩,ov bF (some b)⟩ (some b) rfl (by show (b.length:Int)<=_;omega) hbv) (bB ((gZ ⟨⟨0,c.cV⟩,ov bF (some b)⟩).2 (dZ (some b))) (.v _)) (.v _)
 have aHT:=kx (aLV ⟨⟨0,c.cV⟩,ov bF (some b)⟩ (some b) rfl n1) (cP ((gZ ⟨⟨0,c.cV⟩,ov bF (some b)⟩).2 (dZ (some b)))) ((gZ ⟨⟨0,c.cV⟩,ov bF (some b)⟩).2 (dZ (some b)))
 rw[cL func102 rfl rfl];refine iA ?_
 simp only[Z8,seval,mN,mO,aEn,f1',f2,f3,f4,f6,f7,aO9,h1.1,h1.2,h2.1,h2.2,h3.1,h3.2,h4.1,h4.2,h5.1,h5.2,hg,zE,kt,hb0,XY,E6,Int.toNat_natCast,aIa,aHT,aO0,Hb b (show (b.length:Int)<1000000 by omega)]
 have exT:=Rk 1 [⟨⟨0,c.cV⟩,ov bF (some b)⟩] (by intro y hy;rw[mem_singleton] at hy;subst hy;exact dZ (some b))
 rw[RN] at exT;have hcc:∀x,x=c.iF->({ kU:=c.kU,jS:=c.jS,Js:=c.Js,BC:=c.BC,cV:=c.cV,iF:=x }:Config)=c:=by rintro _ rfl;rfl
 have zs:gC.fP.gA=.v (.slice none 0 0)/\gC.cM.early=.v (.slice none 0 0)/\gC.cM.bN=.v (.slice none 0 0):=⟨rfl,rfl,rfl⟩
 exact⟨_,by apply dN;rfl;all_goals simp only[aJ,bY,Z8,seval,bP,gH,bM,vA,Zh,exT,cY,jE,zs]<;>rfl,by unfold yX;simp only[ov,length_replicate,RN,hcc (.sl b.length (bF b)) aEn.symm]<;>rfl⟩
end Go.Ab.Tryz
section
namespace Go.Ab
open Classical
def Rp [Ext] (P:Program) {f:Nat} {fn:Func} {c:Code} (hf:P.funcs[f]? = some fn) (hb:fn.body=some c) (pJ:Fa fn=true) (e sz m:Nat) (cs xs:List AV) (hx:Ext.ext f (.uniq e sz m cs :: xs)=none) :
 aG P f (.uniq e sz m cs :: xs)=cT (Bx P c (St.tU e sz m cs xs)) (aAX P fn):=by
 simp only[Fa,hb,Bool.and_eq_true,Bool.not_eq_true'] at pJ;rw[RO P hf hb pJ.1 e sz m cs xs hx,pJ.2];rfl
def H8 [Ext] (P:Program) {f:Nat} {fn:Func} {c:Code} (hf:P.funcs[f]? = some fn) (hb:fn.body=some c) (pJ:Ua fn=true) (hc:mW c=true) (e sz m:Nat) (cs xs:List AV) (hx:Ext.ext f (.uniq e sz m cs :: xs)=none) :
 aG P f (.uniq e sz m cs :: xs)=cT (xZ P true c (St.tU e sz m cs xs)) (aAX P fn):=by
 rw[RO P hf hb pJ e sz m cs xs hx,hc]
def Bc [Ext] {P:Program} {fn:Func} {st:St} {e:Ex} {t s g ee sz n:Nat} {cs:List AV} (he:e=.ret\/e=.normal) (hr:fn.results.toList=[.tmp t]) (h1:st.env t=.own s g) (h2:st.heap s g=some (.row ee sz n cs)) (hm:∀c∈cs,iE c) :
 aAX P fn (e,st)=some (.uniq ee sz n cs):=aAY he hr (by unfold lQ;simp only[h1]) h2 hm
end Go.Ab
namespace Go.Ab.Tryz
open Classical Go.Proofs Go.Ab
def Bd (l:List Int):∀c∈kM l,iE c:=by
 intro c hc;unfold kM at hc;obtain⟨x,_,hx⟩:=mem_flatMap.1 hc
 rw[cU8,mem_singleton] at hx;subst hx;exact .v _
def Wr (F:Nat) (rest:List AV) (K:Int):Prop:=∀l:List Int,(l.length:Int)+K<900000->∃m:List Int,aG prog F (.uniq 5 1 l.length (kM l) :: rest)=some (.uniq 5 1 m.length (kM m))/\(m.length:Int)<=l.length+K
def WrN (F:Nat) (rest:List AV) (K:Int):Prop:=∃m:List Int,aG prog F (.v (.slice none 0 0) :: rest)=some (.uniq 5 1 m.length (kM m))/\(m.length:Int)<=K
def Wr.at {F:Nat} {rest:List AV} {K:Int} (h:Wr F rest K) (hr:∀x∈rest,Flat x) {l:List Int} (hl:(l.length:Int)+K<900000) :
 ∃m:List Int,(∀s k d c,mvE (aG prog) F rest s k d c (some (.row 5 1 l.length (kM l)))=some { dst:=some d,val:=.own d c,dP:=some (s,k,none),new:=some (d,[.row 5 1 m.length (kM m)])})/\(m.length:Int)<=l.length+K:=by
 obtain⟨m,h1,h2⟩:=h l hl
 exact⟨m,fun s k d c=>aAZ (wQ l) hr h1,h2⟩
def WrN.at {F:Nat} {rest:List AV} {K:Int} (h:WrN F rest K) (hr:∀x∈rest,Flat x) :
 ∃m:List Int,(∀(st:St) (d:Nat),lP (aG prog) F (.v (.slice none 0 0) :: rest) st (some d)=some { dst:=some d,val:=.own d (st.aQ d),new:=some (d,[.row 5 1 m.length (kM m)])})/\(m.length:Int)<=K:=by
 obtain⟨m,h1,h2⟩:=h
 exact⟨m,fun st d=>ZL hr h1,h2⟩
def tb:Nat->Int
 | 0=>18446744073709551616
 | k+1=>tb k / 128+1
def tb9:tb 9=3:=by decide
def H9 (x:Int):x.fdiv (2 ^ min 7 u64.bits)=x / 128:=by
 show x.fdiv 128=x / 128
 exact Int.fdiv_eq_ediv_of_nonneg x (by decide)
def aEo (l:List Int):kM l=l.map fun x=>.v (.int .u8 x):=by
 induction l with
 | nil=>rfl
 | cons a l ih=>simp only[kM,flatMap_cons,map_cons,cU8] at *;rw[ih];rfl
def RP (r:cC):bC r=kM r.toList:=by rw[aEo];rfl
def Zk {P:Program} {T:Nat} {k:IntKind} {a b:Int}:gL P .or T (.v (.int k a)) (.v (.int k b))=some (.v (.int k (k.wrap (BitVec.ofInt k.bits a ||| BitVec.ofInt k.bits b).toNat))):=by simp[gL]
def aMg:dX prog 27=none:=by kernel_rfl
def aMh (r:cC) (st:St) (s g o:Nat) (h:st.heap s g=some (.cells (bC r))):cZ prog st 27 (.ptr s g o) none none=some (.vw s g o 32):=by
 simp only[cZ,aMg,aHJ,h]
def aA0 (st:St) (s g:Nat) (r:cC) (h:st.heap s g=some (.cells (bC r))):aV st (.vw s g 0 32)=some (r.toList.length,kM r.toList):=by
 have hl:(bC r).length=32:=aO r
 simp only[aV,h,Nat.zero_add,drop_zero];rw[if_pos (by omega),take_of_length_le (by omega),RP]
 simp
def BS (n:Int) (hn:Rg n):Wr 215 [.v (.int .u64 n)] 10:=by
 intro l hl;suffices h:∃r,aG prog 215 [.uniq 5 1 l.length (kM l),.v (.int .u64 n)]=some r/\∃m:List Int,r=.uniq 5 1 m.length (kM m)/\(m.length:Int)<=l.length+10 by
  obtain⟨r,h,m,rfl,h2⟩:=h;exact⟨m,h,h2⟩
 rw[Rp prog func215 rfl aMi _ _ _ _ _ (vB _ _)];simp only[Z8,seval,mQ,pA,mR,mS,pB];refine cA (fun m st=>∃(x:Int) (k:Nat) (l':List Int) (a g:Nat),(st.env 0=.own a g/\st.heap a g=some (.row 5 1 l'.length (kM l'))/\st.env 1=.v (.int .u64 x))/\((a=0/\g=0)\/(a=13/\g<st.aQ 13))/\l'.length=l.length+k/\0<=x/\x<tb k/\k<=9/\m=x.toNat)
  (fun e st=>e=.exit 0/\∃(x:Int) (l':List Int) (a g:Nat),(st.env 0=.own a g/\st.heap a g=some (.row 5 1 l'.length (kM l'))/\st.env 1=.v (.int .u64 x))/\a≠19/\(l'.length:Int)<=l.length+9) n.toNat ?step ?start ?rest
 case step =>
  rintro m st ⟨x,k,l',a,g,hI,LP,Iv,x0,hx,hk,hm⟩
  by_cases aW:127<x
  ·have hk8:k<=8:=by
    rcases Nat.lt_or_ge k 9 with h|h
    ·omega
    ·have:k=9:=by omega
     subst this;rw[tb9] at hx;omega
   have Tz:(l'.length:Int)<1000000:=by omega
   have Lp:x / 128<tb (k+1):=by show x / 128<tb k / 128+1;omega
   have ll:∀b:Int,(l'++[b]).length=l.length+(k+1):=fun b=>by rw[length_append,length_cons,length_nil];omega
   rcases LP with ⟨rfl,rfl⟩|⟨rfl,hg⟩
   ·apply oN ((x / 128).toNat)
    ·simp only[Z8,seval,hI,aW,Zk,Oy _ _ _ _ Tz,H9];rfl
    ·exact⟨x / 128,k+1,_,13,_,by and_intros<;>(simp only[E8,seval]<;>rfl),.inr ⟨rfl,by simp only[E8,seval]<;>omega⟩,ll _,by omega,Lp,by omega,rfl⟩
   ·have vQ:(g=st.aQ 13)=False:=eq_false (by omega)
    apply oN ((x / 128).toNat)
    ·simp only[Z8,seval,hI,aW,vQ,Zk,Oy _ _ _ _ Tz,H9];rfl
    ·exact⟨x / 128,k+1,_,13,_,by and_intros<;>(simp only[E8,seval]<;>rfl),.inr ⟨rfl,by simp only[E8,seval]<;>omega⟩,ll _,by omega,Lp,by omega,rfl⟩
  ·apply oT (.exit 0)
   ·simp only[Z8,seval,hI,aW];rfl
   ·exact⟨rfl,x,l',a,g,by simp only[E8,seval,hI],by omega,by omega⟩
 case start=>exact⟨n,0,l,0,0,by simp only[E8,seval,mQ,pA,mR,mS,pB]<;>rfl,.inl ⟨rfl,rfl⟩,rfl,hn.1,hn.2,by omega,rfl⟩
 case rest =>
  rintro e st ⟨rfl,x,l',a,g,hI,ha,Iv⟩
  have ha':(a=19)=False:=eq_false ha
  have Tz:(l'.length:Int)<1000000:=by omega
  simp only[Z8,seval,hI,ha',Oy _ _ _ _ Tz];exact⟨_,Bc (.inl rfl) rfl (by simp only[E8,seval]<;>rfl) (by simp only[E8,seval]<;>rfl) (Bd _),_,rfl,by rw[length_append,length_cons,length_nil];omega⟩
def P7 (n:Int) (hn:Rg n):WrN 215 [.v (.int .u64 n)] 10:=by
 suffices h:∃r,aG prog 215 [.v (.slice none 0 0),.v (.int .u64 n)]=some r/\∃m:List Int,r=.uniq 5 1 m.length (kM m)/\(m.length:Int)<=10 by
  obtain⟨r,h,m,rfl,h2⟩:=h;exact⟨m,h,h2⟩
 rw[cL func215 rfl rfl];simp only[Z8,seval];refine cA (fun m st=>∃(x:Int) (k:Nat),st.env 1=.v (.int .u64 x)/\((k=0/\st.env 0=.v (.slice none 0 0))\/∃(l':List Int) (g:Nat),(st.env 0=.own 13 g/\st.heap 13 g=some (.row 5 1 l'.length (kM l')))/\g<st.aQ 13/\l'.length=k)/\0<=x/\x<tb k/\k<=9/\m=x.toNat)
  (fun e st=>e=.exit 0/\∃(x:Int),st.env 1=.v (.int .u64 x)/\(st.env 0=.v (.slice none 0 0)\/∃(l':List Int) (g:Nat),(st.env 0=.own 13 g/\st.heap 13 g=some (.row 5 1 l'.length (kM l')))/\(l'.length:Int)<=9)) n.toNat ?step ?start ?rest
 case step =>
  rintro m st ⟨x,k,hI,h0,x0,hx,hk,hm⟩
  by_cases aW:127<x
  ·have hk8:k<=8:=by
    rcases Nat.lt_or_ge k 9 with h|h
    ·omega
    ·have:k=9:=by omega
     subst this;rw[tb9] at hx;omega
   have Lp:x / 128<tb (k+1):=by show x / 128<tb k / 128+1;omega
   rcases h0 with ⟨rC,h0⟩|⟨l',g,h0,hg,Iv⟩
   ·have ll:∀b:Int,([b]:List Int).length=k+1:=fun b=>by rw[length_cons,length_nil];omega
    apply oN ((x / 128).toNat)
    ·simp only[Z8,seval,hI,h0,aW,Zk,ZM,H9];rfl
    ·exact⟨x / 128,k+1,by simp only[E8,seval],.inr ⟨_,_,⟨by simp only[E8,seval]<;>rfl,by simp only[E8,seval]<;>rfl⟩,by simp only[E8,seval]<;>omega,ll _⟩,by omega,Lp,by omega,rfl⟩
   ·have Tz:(l'.length:Int)<1000000:=by omega
    have ll:∀b:Int,(l'++[b]).length=k+1:=fun b=>by rw[length_append,length_cons,length_nil];omega
    have vQ:(g=st.aQ 13)=False:=eq_false (by omega)
    apply oN ((x / 128).toNat)
    ·simp only[Z8,seval,hI,h0,aW,vQ,Zk,Oy _ _ _ _ Tz,H9];rfl
    ·exact⟨x / 128,k+1,by simp only[E8,seval],.inr ⟨_,_,⟨by simp only[E8,seval]<;>rfl,by simp only[E8,seval]<;>rfl⟩,by simp only[E8,seval]<;>omega,ll _⟩,by omega,Lp,by omega,rfl⟩
  ·have h0':st.env 0=.v (.slice none 0 0)\/∃(l':List Int) (g:Nat),(st.env 0=.own 13 g/\st.heap 13 g=some (.row 5 1 l'.length (kM l')))/\(l'.length:Int)<=9:=by
    rcases h0 with ⟨_,h0⟩|⟨l',g,h0,hg,Iv⟩
    ·exact .inl h0
    ·exact .inr ⟨l',g,h0,by omega⟩
   apply oT (.exit 0)
   ·simp only[Z8,seval,hI,aW];rfl
   ·exact⟨rfl,x,by simp only[E8,seval,hI],by simpa only[E8,seval] using h0'⟩
 case start=>exact⟨n,0,by simp only[E8,seval]<;>rfl,.inl ⟨rfl,by simp only[E8,seval]<;>rfl⟩,hn.1,hn.2,by omega,rfl⟩
 case rest =>
  rintro e st ⟨rfl,x,hI,h0⟩
  rcases h0 with h0|⟨l',g,h0,Iv⟩
  ·simp only[Z8,seval,hI,h0,ZM];exact⟨_,Rq (n:=([u8.wrap x]:List Int).length) (cs:=kM [u8.wrap x]) (aJ (by decide)) (.inl rfl) rfl (by simp only[E8,seval]<;>rfl) (by simp only[E8,seval]<;>rfl) (wQ _),_,rfl,by rw[length_cons,length_nil];omega⟩
  ·have Tz:(l'.length:Int)<1000000:=by omega
   simp only[Z8,seval,hI,h0,Oy _ _ _ _ Tz];exact⟨_,uK rfl (by simp only[E8,seval]<;>rfl) (by simp only[E8,seval]<;>rfl) (wQ _),_,rfl,by rw[length_append,length_cons,length_nil];omega⟩
def LQ (r:cC):Wr 226 [.agg (bC r)] 32:=by
 intro l hl;suffices h:∃x,aG prog 226 [.uniq 5 1 l.length (kM l),.agg (bC r)]=some x/\∃m:List Int,x=.uniq 5 1 m.length (kM m)/\(m.length:Int)<=l.length+32 by
  obtain⟨r,h,m,rfl,h2⟩:=h;exact⟨m,h,h2⟩
 have Tz:(l.length:Int)<1000000:=by omega
 have hc:bC r=kM r.toList:=RP r
 have hr:(r.toList.length:Int)<1000000:=by simp
 rw[Rp prog func226 rfl aMj _ _ _ _ _ (vB _ _)];simp only[Z8,seval,mQ,pA,mR,mS,pB,aMh r,aA0 _ _ _ r,ZN _ _ _ _ Tz hr];exact⟨_,Bc (.inl rfl) rfl (by simp only[E8,seval]<;>rfl) (by simp only[E8,seval]<;>rfl) (Bd _),_,rfl,by rw[length_append];simp⟩
def aA1 (c:dL) (h:Rg c.aE):Wr 228 [.agg (bG c)] 42:=by
 intro l hl;suffices h:∃r,aG prog 228 [.uniq 5 1 l.length (kM l),.agg (bG c)]=some r/\∃m:List Int,r=.uniq 5 1 m.length (kM m)/\(m.length:Int)<=l.length+42 by
  obtain⟨r,h,m,rfl,h2⟩:=h;exact⟨m,h,h2⟩
 obtain⟨m1,e1,b1⟩:=(BS c.aE h).at (cP (.v _)) (l:=l) (by omega)
 obtain⟨m2,e2,b2⟩:=(LQ c.root).at (cP (rH _)) (l:=m1) (by omega)
 rw[H8 prog func228 rfl aMk (by kernel_rfl) _ _ _ _ _ (vB _ _)]
 simp only[ZG,seval,aMl,mQ,pA,mR,mS,pB,e1,e2];exact⟨_,Bc (.inl rfl) rfl (by simp only[E8,seval]<;>rfl) (by simp only[E8,seval]<;>rfl) (Bd _),_,rfl,by omega⟩
end Go.Ab.Tryz
end
namespace Go.Ab.Tryz
open Classical Go.Proofs Go.Ab
def aMm (o p:Option (List Int)) (hn:((ol o).length:Int)<1000000):∃r,aG prog 105 [ov aM o,ov aM p]=some r/\∃b:Bool,r=.v (.bool b):=by
 rw[cL func105 rfl (by cases o<;>cases p<;>rfl)]
 by_cases g:((ol o).length:Int)=((ol p).length:Int)
 case neg =>
  simp only[Z8,seval,bf g];exact⟨_,bT rfl,_,rfl⟩
 simp only[Z8,seval,bt g];refine cA (fun m st=>∃k:Nat,(st.env 0=ov aM o/\st.env 1=ov aM p/\st.env 5=.v (.int .i64 k))/\k<=(ol o).length/\m=(ol o).length-k)
  (fun e st=>(e=.ret/\st.env 4=.v (.bool false))\/e=.exit 0) (ol o).length ?step ?start ?rest
 case step =>
  rintro m st ⟨k,hI,hk,hm⟩
  by_cases aW:(k:Int)<(ol o).length
  ·have q0:(0:Int)<=k:=by omega
   have q1:(k:Int)<((ol p).length:Int):=by omega
   have hw:=wk (k:=k) (by omega)
   by_cases hh:gx (0:Int) (ol o) (k:Int)=gx (0:Int) (ol p) (k:Int)
   ·apply oN ((ol o).length-(k+1))
    ·simp only[Z8,seval,hI,aW,q0,q1,bt hh,hw];rfl
    ·exact⟨k+1,by simp only[E8,seval,hI],by omega,rfl⟩
   ·apply oT (.ret)
    ·simp only[Z8,seval,hI,aW,q0,q1,bf hh];rfl
    ·exact .inl ⟨rfl,by simp only[E8,seval]⟩
  ·apply oT (.exit 0)
   ·simp only[Z8,seval,hI,aW];rfl
   ·exact .inr rfl
 case start=>exact⟨0,by simp only[E8,seval]<;>rfl,by omega,by omega⟩
 case rest =>
  rintro e st (⟨rfl,h⟩|rfl)
  ·simp only[Z8,seval,h];exact⟨_,bT rfl (by simp only[E8,seval,h]<;>rfl) (by first|exact .v _|simp only[jE,h]),_,rfl⟩
  ·simp only[Z8,seval];exact⟨_,bT rfl,_,rfl⟩
def aQA (o p:Option (List Int)) (hn:((ol o).length:Int)<1000000):∃r,aG prog 103 [ov bF o,ov bF p]=some r/\∃b:Bool,r=.v (.bool b):=by
 rw[cL func103 rfl (by cases o<;>cases p<;>rfl)]
 by_cases g:((ol o).length:Int)=((ol p).length:Int)
 case neg =>
  simp only[Z8,seval,bf g];exact⟨_,bT rfl,_,rfl⟩
 simp only[Z8,seval,bt g];refine cA (fun m st=>∃k:Nat,(st.env 0=ov bF o/\st.env 1=ov bF p/\st.env 5=.v (.int .i64 k))/\k<=(ol o).length/\m=(ol o).length-k)
  (fun e st=>(e=.ret/\st.env 4=.v (.bool false))\/e=.exit 0) (ol o).length ?step ?start ?rest
 case step =>
  rintro m st ⟨k,hI,hk,hm⟩
  by_cases aW:(k:Int)<(ol o).length
  ·have q0:(0:Int)<=k:=by omega
   have q1:(k:Int)<((ol p).length:Int):=by omega
   have hw:=wk (k:=k) (by omega)
   by_cases hh:gx (0:Int) (ol o) (k:Int)=gx (0:Int) (ol p) (k:Int)
   ·apply oN ((ol o).length-(k+1))
    ·simp only[Z8,seval,hI,aW,q0,q1,bt hh,hw];rfl
    ·exact⟨k+1,by simp only[E8,seval,hI],by omega,rfl⟩
   ·apply oT (.ret)
    ·simp only[Z8,seval,hI,aW,q0,q1,bf hh];rfl
    ·exact .inl ⟨rfl,by simp only[E8,seval]⟩
  ·apply oT (.exit 0)
   ·simp only[Z8,seval,hI,aW];rfl
   ·exact .inr rfl
 case start=>exact⟨0,by simp only[E8,seval]<;>rfl,by omega,by omega⟩
 case rest =>
  rintro e st (⟨rfl,h⟩|rfl)
  ·simp only[Z8,seval,h];exact⟨_,bT rfl (by simp only[E8,seval,h]<;>rfl) (by first|exact .v _|simp only[jE,h]),_,rfl⟩
  ·simp only[Z8,seval];exact⟨_,bT rfl,_,rfl⟩
def aQB (a b:rX) (ha:Er a) (hb:Er b):∃r,aG prog 108 [.agg (iD a),.agg (iD b)]=some r/\∃b:Bool,r=.v (.bool b):=by
 obtain⟨V,hV,nV⟩:=ha
 obtain⟨W,hW,nW⟩:=hb
 obtain⟨r1,e1,B,rfl⟩:=aMm V W nV
 have aA2:=kx e1 (bB (bQ V) (bQ W)) (.v _)
 rw[cL func108 rfl rfl];by_cases g1:a.slot=b.slot
 case neg =>
  simp only[Z8,seval,hV,hW,bf g1];exact⟨_,bT rfl,_,rfl⟩
 by_cases g2:a.root=b.root
 case neg =>
  simp only[Z8,seval,hV,hW,bt g1,g2];exact⟨_,bT rfl,_,rfl⟩
 by_cases g3:a.target=b.target
 case neg =>
  simp only[Z8,seval,hV,hW,bt g1,g2,g3];exact⟨_,bT rfl,_,rfl⟩
 simp only[Z8,seval,hV,hW,bt g1,g2,g3,aA2];exact⟨_,bT rfl,_,rfl⟩
def aQC (a b:Table) (ha:rR a) (hb:rR b):∃r,aG prog 159 [.agg (bZ a),.agg (bZ b)]=some r/\∃b:Bool,r=.v (.bool b):=by
 obtain⟨V,hV,nV⟩:=ha
 obtain⟨W,hW,nW⟩:=hb
 obtain⟨r1,e1,B,rfl⟩:=aQA V W nV
 have aEp:=kx e1 (bB (dZ V) (dZ W)) (.v _)
 rw[cL func159 rfl rfl];by_cases g1:a.ck=b.ck
 case neg =>
  simp only[Z8,seval,hV,hW,g1];exact⟨_,bT rfl,_,rfl⟩
 simp only[Z8,seval,hV,hW,g1,aEp];exact⟨_,bT rfl,_,rfl⟩
def yA (a:Claim):Prop:=∃V:Option (List Int),a.eM=ov aM V/\((ol V).length:Int)<=1000
def yA.fl {a:Claim} (h:yA a):Flat (.agg (gU a)):=by obtain⟨V,h,_⟩:=h;exact (Ay a).2 (by rw[h];exact bQ V)
def aMn (a b:Claim) (ha:yA a) (hb:yA b):∃r,aG prog 232 [.agg (gU a),.agg (gU b)]=some r/\∃b:Bool,r=.v (.bool b):=by
 obtain⟨V,hV,nV⟩:=ha
 obtain⟨W,hW,nW⟩:=hb
 obtain⟨r1,e1,B,rfl⟩:=aMm V W (by omega)
 have aA2:=kx e1 (bB (bQ V) (bQ W)) (.v _)
 rw[cL func232 rfl rfl];by_cases g1:a.source=b.source
 case neg =>
  simp only[Z8,seval,hV,hW,bf g1];exact⟨_,bT rfl,_,rfl⟩
 by_cases g2:a.target=b.target
 case neg =>
  simp only[Z8,seval,hV,hW,bt g1,bf g2];exact⟨_,bT rfl,_,rfl⟩
 by_cases g3:a.root=b.root
 case neg =>
  simp only[Z8,seval,hV,hW,bt g1,bt g2,g3];exact⟨_,bT rfl,_,rfl⟩
 simp only[Z8,seval,hV,hW,bt g1,bt g2,g3,aA2];exact⟨_,bT rfl,_,rfl⟩
def aQD (a b:gB) (h1:yA a.first) (h2:yA a.second) (h3:yA b.first) (h4:yA b.second):∃r,aG prog 216 [.agg (cD a),.agg (cD b)]=some r/\∃b:Bool,r=.v (.bool b):=by
 obtain⟨r1,e1,B1,rfl⟩:=aMn a.first b.first h1 h3
 obtain⟨r2,e2,B2,rfl⟩:=aMn a.second b.second h2 h4
 have k1:=kx e1 (bB h1.fl h3.fl) (.v _)
 have k2:=kx e2 (bB h2.fl h4.fl) (.v _)
 rw[cL func216 rfl rfl];cases B1
 ·simp only[Z8,seval,k1];exact⟨_,bT rfl,_,rfl⟩
 ·simp only[Z8,seval,k1,k2];exact⟨_,bT rfl,_,rfl⟩
structure pX (x:yQ):Prop where
 Il:∃V:Option (List Int),x.Il.eM=ov aM V/\((ol V).length:Int)<=1000
 c1:yA x.pL.first
 c2:yA x.pL.second
 PN:∃b:Option (List Int),x.table.iF=ov bF b/\((ol b).length:Int)<=1000/\∀y∈ol b,Rg y
 rb:RB x.block
 ra:Rg x.Il.slot/\Rg x.Il.target.aE
 rs:Rg x.pL.first.source/\Rg x.pL.first.target/\Rg x.pL.second.source/\Rg x.pL.second.target
 rt:Rg x.table.ck.aE
 rv:Rg x.verdict.tagged.tag
def pX.aGR {x:yQ} (h:pX x):Er x.Il:=by obtain⟨V,h1,h2⟩:=h.Il;exact⟨V,h1,by omega⟩
def pX.aA3 {x:yQ} (h:pX x):rR x.table:=by obtain⟨V,h1,h2,_⟩:=h.PN;exact⟨V,h1,by omega⟩
def pX.fl {x:yQ} (h:pX x):Flat x.Il.eM/\Flat x.pL.first.eM/\Flat x.pL.second.eM/\Flat x.table.iF:=by
 obtain⟨V,h1,_⟩:=h.Il;obtain⟨V2,h2,_⟩:=h.c1;obtain⟨V3,h3,_⟩:=h.c2;obtain⟨V4,h4,_⟩:=h.PN
 rw[h1,h2,h3,h4];exact⟨bQ _,bQ _,bQ _,dZ _⟩
def pX.flat {x:yQ} (h:pX x):Flat (.agg (lD x)):=(YR x).2 h.fl
def ZO (a b:yQ) (ha:pX a) (hb:pX b):∃r,aG prog 201 [.agg (lD a),.agg (lD b)]=some r/\∃b:Bool,r=.v (.bool b):=by
 have fa:=ha.fl
 have fb:=hb.fl
 obtain⟨r1,e1,B1,rfl⟩:=aQB a.Il b.Il ha.aGR hb.aGR
 obtain⟨r2,e2,B2,rfl⟩:=aQD a.pL b.pL ha.c1 ha.c2 hb.c1 hb.c2
 obtain⟨r3,e3,B3,rfl⟩:=aQC a.table b.table ha.aA3 hb.aA3
 have k1:=kx e1 (bB ((Ax _).2 fa.1) ((Ax _).2 fb.1)) (.v _)
 have k2:=kx e2 (bB ((nM _).2 ⟨fa.2.1,fa.2.2.1⟩) ((nM _).2 ⟨fb.2.1,fb.2.2.1⟩)) (.v _)
 have k3:=kx e3 (bB ((gZ _).2 fa.2.2.2) ((gZ _).2 fb.2.2.2)) (.v _)
 rw[cL func201 rfl rfl];by_cases g1:a.kind=b.kind
 case neg =>
  simp only[Z8,seval,mN,mO,bf g1];exact⟨_,bT rfl,_,rfl⟩
 by_cases g2:a.block=b.block
 case neg =>
  simp only[Z8,seval,mN,mO,bt g1,g2];exact⟨_,bT rfl,_,rfl⟩
 cases B1
 ·simp only[Z8,seval,mN,mO,bt g1,g2,k1];exact⟨_,bT rfl,_,rfl⟩
 cases B2
 ·simp only[Z8,seval,mN,mO,bt g1,g2,k1,k2];exact⟨_,bT rfl,_,rfl⟩
 cases B3
 ·simp only[Z8,seval,mN,mO,bt g1,g2,k1,k2,k3];exact⟨_,bT rfl,_,rfl⟩
 by_cases g3:a.verdict=b.verdict
 case neg =>
  simp only[Z8,seval,mN,mO,bt g1,g2,k1,k2,k3,g3];exact⟨_,bT rfl,_,rfl⟩
 by_cases g4:a.write=b.write
 case neg =>
  simp only[Z8,seval,mN,mO,bt g1,g2,k1,k2,k3,g3,bf g4];exact⟨_,bT rfl,_,rfl⟩
 simp only[Z8,seval,mN,mO,bt g1,g2,k1,k2,k3,g3,bt g4];exact⟨_,bT rfl,_,rfl⟩
def aEq (cs:List AV) (o:Nat) (h:32<=cs.length-o):eZ prog 26 cs o=some (.agg (rd cs o 32)):=by
 have e:fW prog 26=some (true,32):=by kernel_rfl
 unfold eZ;simp only[e];rw[if_pos ⟨by omega,h⟩]
def aA4:tI prog 26=some 32:=by kernel_rfl
def aMo:eK prog 26=some uC:=by kernel_rfl
def aMp:jP prog 26=some (32,1):=by kernel_rfl
def aMq:dX prog 26=none:=by kernel_rfl
def aMr (r:cC) (st:St) (s g o:Nat) (h:st.heap s g=some (.cells (bC r))):cZ prog st 26 (.ptr s g o) none none=some (.vw s g o 32):=by
 simp only[cZ,aMq,aMp,h]
def aIe (st:St) (x:AV) {k:IntKind} {i:Int} (h0:0<=i) (h1:i<32):bI prog st 26 x (.v (.int k i))=wC x (i.toNat * 1):=LA aMp st x h0 h1
def yY (x:Int):(u64.wrap x<0)=False:=by
 refine eq_false ?_
 unfold IntKind.wrap;simp[IntKind.signed,IntKind.bits]
 omega
def aQE (w:rD):∃r:cC,aG prog 246 [.agg (gI w)]=some (.agg (bC r)):=by
 suffices h:∃x,aG prog 246 [.agg (gI w)]=some x/\∃r:cC,x=.agg (bC r) by
  obtain⟨x,h,r,rfl⟩:=h;exact⟨r,h⟩
 rw[cL func246 rfl rfl];simp only[Z8,seval,aMo];refine cA (fun m st=>∃(k:Nat) (r:cC),(st.env 1=.ptr 1 0 0/\st.heap 1 0=some (.cells (gI w))/\st.env 3=.ptr 3 0 0/\st.heap 3 0=some (.cells (bC r))/\st.env 2=.ptr 2 0 0/\st.heap 2 0=some (.cells (bC cO))/\st.env 4=.v (.int .i64 k))/\k<=32/\m=32-k)
  (fun e st=>e=.exit 0/\∃r:cC,st.env 3=.ptr 3 0 0/\st.heap 3 0=some (.cells (bC r))/\st.env 2=.ptr 2 0 0/\st.heap 2 0=some (.cells (bC cO))) 32 ?step ?start ?rest
 case step =>
  rintro m st ⟨k,r,hI,hk,hm⟩
  by_cases aW:(k:Int)<32
  ·have q0:(0:Int)<=k:=by omega
   have hw:=wk (k:=k) (by omega)
   obtain⟨i,hi⟩:∃i:Int,i=31-(k:Int):=⟨_,rfl⟩
   have hi1:i64.wrap (31-(k:Int))=i:=by rw[Ty _ (by omega) (by omega),hi]
   have i0:0<=i:=by omega
   have i1:i<32:=by omega
   have hj:i64.wrap ((k:Int).tdiv 8)=(k:Int) / 8:=by rw[Int.tdiv_eq_ediv_of_nonneg q0,Ty _ (by omega) (by omega)]
   have j0:0<=(k:Int) / 8:=by omega
   have j1:(k:Int) / 8<4:=by omega
   have i31:i.toNat<=31:=by omega
   have gw:=Uk w j0 j1
   have zM:=fun x=>AF r i.toNat (i.toNat+1) x (by omega) rfl
   apply oN (32-(k+1))
   ·simp only[Z8,seval,hI,aW,q0,hi1,i0,i1,hj,j0,j1,Jo,aIe,gw,i31,zM,yY,Nat.mul_one,hw];rfl
   ·exact⟨k+1,_,by simp only[E8,seval,hI]<;>rfl,by omega,rfl⟩
  ·apply oT (.exit 0)
   ·simp only[Z8,seval,hI,aW];rfl
   ·exact⟨rfl,r,by simp only[E8,seval,hI]⟩
 case start=>exact⟨0,cO,by simp only[E8,seval]<;>rfl,by omega,by omega⟩
 case rest =>
  rintro e st ⟨rfl,r,hI⟩
  simp only[Z8,seval,hI,aEq,aA4];exact⟨_,fM rfl (by simp only[E8,seval,hI,aEq,aA4]<;>rfl) (by simp only[Z8,seval,hI,aEq,aA4]<;>rfl) (by simp only[jE,and_self,hI,aEq,aA4]),r,rfl⟩
def aQF (w:rD):∃r:cC,∀(st:St) (d:Option Nat),bH (aG prog) 246 [.agg (gI w)] st d=some { dst:=d,val:=.agg (bC r)}:=by
 obtain⟨r,h⟩:=aQE w
 exact⟨r,kx h (cP (.agg _ (iQ w))) (rH r)⟩
def aMs (x:rD):Wr 227 [.agg (gI x)] 32:=by
 intro l hl;suffices h:∃r,aG prog 227 [.uniq 5 1 l.length (kM l),.agg (gI x)]=some r/\∃m:List Int,r=.uniq 5 1 m.length (kM m)/\(m.length:Int)<=l.length+32 by
  obtain⟨r,h,m,rfl,h2⟩:=h;exact⟨m,h,h2⟩
 have Tz:(l.length:Int)<1000000:=by omega
 obtain⟨r,kr⟩:=aQF x
 have hr:(r.toList.length:Int)<1000000:=by simp
 rw[Rp prog func227 rfl aMt _ _ _ _ _ (vB _ _)];simp only[Z8,seval,mQ,pA,mR,mS,pB,kr,aMo,aA4,aMr r,aA0 _ _ _ r,ZN _ _ _ _ Tz hr];exact⟨_,Bc (.inl rfl) rfl (by simp only[E8,seval]<;>rfl) (by simp only[E8,seval]<;>rfl) (Bd _),_,rfl,by rw[length_append];simp⟩
def aQG (b:Bool):Wr 229 [.v (.bool b)] 1:=by
 intro l hl;suffices h:∃r,aG prog 229 [.uniq 5 1 l.length (kM l),.v (.bool b)]=some r/\∃m:List Int,r=.uniq 5 1 m.length (kM m)/\(m.length:Int)<=l.length+1 by
  obtain⟨r,h,m,rfl,h2⟩:=h;exact⟨m,h,h2⟩
 have Tz:(l.length:Int)<1000000:=by omega
 rw[Rp prog func229 rfl aMu _ _ _ _ _ (vB _ _)];cases b
 all_goals
  simp only[Z8,seval,mQ,pA,mR,mS,pB,Oy _ _ _ _ Tz];exact⟨_,Bc (.inl rfl) rfl (by simp only[E8,seval]<;>rfl) (by simp only[E8,seval]<;>rfl) (Bd _),_,rfl,by rw[length_append,length_cons,length_nil];omega⟩
def iM (x:Int):Rg (u64.wrap x):=by
 unfold Rg IntKind.wrap;simp[IntKind.signed,IntKind.bits]
 omega
def aIf (V:Option (List Int)) (nV:((ol V).length:Int)<=1000):Wr 230 [ov aM V] 10010:=by
 intro l hl;suffices h:∃r,aG prog 230 [.uniq 5 1 l.length (kM l),ov aM V]=some r/\∃m:List Int,r=.uniq 5 1 m.length (kM m)/\(m.length:Int)<=l.length+10010 by
  obtain⟨r,h,m,rfl,h2⟩:=h;exact⟨m,h,h2⟩
 obtain⟨m1,e1,b1⟩:=(BS _ (iM ((ol V).length:Int))).at (cP (.v _)) (l:=l) (by omega)
 rw[Rp prog func230 rfl aMv _ _ _ _ _ (vB _ _)];simp only[Z8,seval,mQ,pA,mR,mS,pB,e1];refine cA (fun m st=>∃(k:Nat) (p:List Int) (a g:Nat),(st.env 0=.own a g/\st.heap a g=some (.row 5 1 p.length (kM p))/\st.env 1=ov aM V/\st.env 5=.v (.int .i64 k))/\((a=10/\g<st.aQ 10)\/(a=24/\g<st.aQ 24)\/(a=38/\g<st.aQ 38))/\(p.length:Int)<=l.length+10+10 * k/\k<=(ol V).length/\m=(ol V).length-k)
  (fun e st=>e=.exit 0/\∃(p:List Int) (a g:Nat),(st.env 0=.own a g/\st.heap a g=some (.row 5 1 p.length (kM p)))/\(p.length:Int)<=l.length+10010) (ol V).length ?step ?start ?rest
 case step =>
  rintro m st ⟨k,p,a,g,hI,LP,hp,hk,hm⟩
  by_cases aW:(k:Int)<(ol V).length
  ·have q0:(0:Int)<=k:=by omega
   have hw:=wk (k:=k) (by omega)
   have fin:∀(p':List Int),(p'.length:Int)<=p.length+10->(p'.length:Int)<=l.length+10+10 * ((k+1:Nat):Int):=fun p' h=>by omega
   by_cases h1:(k:Int)=0
   ·have z0:(0:Int)<((ol V).length:Int):=by omega
    have z1:(0:Int)<=0:=by omega
    obtain⟨p',e2,b2⟩:=(BS _ (iM (gx (0:Int) (ol V) (0:Int)))).at (cP (.v _)) (l:=p) (by omega)
    rcases LP with ⟨rfl,hg⟩|⟨rfl,hg⟩|⟨rfl,hg⟩
    ·apply oN ((ol V).length-(k+1))
     ·simp only[Z8,seval,hI,aW,q0,bt h1,z0,z1,e2,hw];rfl
     ·exact⟨k+1,p',_,_,⟨by simp only[E8,seval]<;>rfl,by simp only[E8,seval]<;>rfl,by simp only[E8,seval,hI],by simp only[E8,seval]⟩,.inr (.inl ⟨rfl,by simp only[E8,seval]<;>omega⟩),fin p' b2,by omega,rfl⟩
    ·have vQ:(g=st.aQ 24)=False:=eq_false (by omega)
     apply oN ((ol V).length-(k+1))
     ·simp only[Z8,seval,hI,vQ,aW,q0,bt h1,z0,z1,e2,hw];rfl
     ·exact⟨k+1,p',_,_,⟨by simp only[E8,seval]<;>rfl,by simp only[E8,seval]<;>rfl,by simp only[E8,seval,hI],by simp only[E8,seval]⟩,.inr (.inl ⟨rfl,by simp only[E8,seval]<;>omega⟩),fin p' b2,by omega,rfl⟩
    ·apply oN ((ol V).length-(k+1))
     ·simp only[Z8,seval,hI,aW,q0,bt h1,z0,z1,e2,hw];rfl
     ·exact⟨k+1,p',_,_,⟨by simp only[E8,seval]<;>rfl,by simp only[E8,seval]<;>rfl,by simp only[E8,seval,hI],by simp only[E8,seval]⟩,.inr (.inl ⟨rfl,by simp only[E8,seval]<;>omega⟩),fin p' b2,by omega,rfl⟩
   ·have XK:i64.wrap ((k:Int)-1)=(k:Int)-1:=Ty _ (by omega) (by omega)
    have y0:(0:Int)<=(k:Int)-1:=by omega
    have y1:(k:Int)-1<((ol V).length:Int):=by omega
    obtain⟨p',e2,b2⟩:=(BS _ (iM (i64.wrap (i64.wrap (gx (0:Int) (ol V) (k:Int)-gx (0:Int) (ol V) ((k:Int)-1))-1)))).at (cP (.v _)) (l:=p) (by omega)
    rcases LP with ⟨rfl,hg⟩|⟨rfl,hg⟩|⟨rfl,hg⟩
    ·apply oN ((ol V).length-(k+1))
     ·simp only[Z8,seval,hI,aW,q0,bf h1,XK,y0,y1,e2,hw];rfl
     ·exact⟨k+1,p',_,_,⟨by simp only[E8,seval]<;>rfl,by simp only[E8,seval]<;>rfl,by simp only[E8,seval,hI],by simp only[E8,seval]⟩,.inr (.inr ⟨rfl,by simp only[E8,seval]<;>omega⟩),fin p' b2,by omega,rfl⟩
    ·apply oN ((ol V).length-(k+1))
     ·simp only[Z8,seval,hI,aW,q0,bf h1,XK,y0,y1,e2,hw];rfl
     ·exact⟨k+1,p',_,_,⟨by simp only[E8,seval]<;>rfl,by simp only[E8,seval]<;>rfl,by simp only[E8,seval,hI],by simp only[E8,seval]⟩,.inr (.inr ⟨rfl,by simp only[E8,seval]<;>omega⟩),fin p' b2,by omega,rfl⟩
    ·have vQ:(g=st.aQ 38)=False:=eq_false (by omega)
     apply oN ((ol V).length-(k+1))
     ·simp only[Z8,seval,hI,vQ,aW,q0,bf h1,XK,y0,y1,e2,hw];rfl
     ·exact⟨k+1,p',_,_,⟨by simp only[E8,seval]<;>rfl,by simp only[E8,seval]<;>rfl,by simp only[E8,seval,hI],by simp only[E8,seval]⟩,.inr (.inr ⟨rfl,by simp only[E8,seval]<;>omega⟩),fin p' b2,by omega,rfl⟩
  ·apply oT (.exit 0)
   ·simp only[Z8,seval,hI,aW];rfl
   ·exact⟨rfl,p,a,g,by simp only[E8,seval,hI],by omega⟩
 case start=>exact⟨0,m1,10,0,by and_intros<;>(simp only[E8,seval,mQ,pA,mR,mS,pB]<;>rfl),.inl ⟨rfl,by simp only[E8,seval,mQ,pA,mR,mS,pB]<;>omega⟩,by omega,by omega,by omega⟩
 case rest =>
  rintro e st ⟨rfl,p,a,g,hI,hp⟩
  simp only[Z8,seval,hI];exact⟨_,Bc (.inl rfl) rfl (by simp only[E8,seval]<;>rfl) (by simp only[E8,seval,hI]<;>rfl) (Bd _),_,rfl,hp⟩
def aQH (c:Claim) (V:Option (List Int)) (hV:c.eM=ov aM V) (nV:((ol V).length:Int)<=1000) (h1:Rg c.source) (h2:Rg c.target):Wr 231 [.agg (gU c)] 10100:=by
 intro l hl;suffices h:∃r,aG prog 231 [.uniq 5 1 l.length (kM l),.agg (gU c)]=some r/\∃m:List Int,r=.uniq 5 1 m.length (kM m)/\(m.length:Int)<=l.length+10100 by
  obtain⟨r,h,m,rfl,h2⟩:=h;exact⟨m,h,h2⟩
 obtain⟨m1,e1,b1⟩:=(BS c.source h1).at (cP (.v _)) (l:=l) (by omega)
 obtain⟨m2,e2,b2⟩:=(BS c.target h2).at (cP (.v _)) (l:=m1) (by omega)
 obtain⟨m3,e3,b3⟩:=(LQ c.root).at (cP (rH _)) (l:=m2) (by omega)
 obtain⟨m4,e4,b4⟩:=(aIf V nV).at (cP (bQ V)) (l:=m3) (by omega)
 rw[H8 prog func231 rfl aMw (by kernel_rfl) _ _ _ _ _ (vB _ _)]
 simp only[ZG,seval,aGS,mQ,pA,mR,mS,pB,e1,e2,e3,e4,hV,Ct,Cu,Jq,Jr];exact⟨_,Bc (.inl rfl) rfl (by simp only[E8,seval]<;>rfl) (by simp only[E8,seval]<;>rfl) (Bd _),_,rfl,by omega⟩
def aQI (c:Claim) (V:Option (List Int)) (hV:c.eM=ov aM V) (nV:((ol V).length:Int)<=1000) (h1:Rg c.source) (h2:Rg c.target):WrN 231 [.agg (gU c)] 10100:=by
 suffices h:∃r,aG prog 231 [.v (.slice none 0 0),.agg (gU c)]=some r/\∃m:List Int,r=.uniq 5 1 m.length (kM m)/\(m.length:Int)<=10100 by
  obtain⟨r,h,m,rfl,h2⟩:=h;exact⟨m,h,h2⟩
 obtain⟨m1,e1,b1⟩:=(P7 c.source h1).at (cP (.v _))
 obtain⟨m2,e2,b2⟩:=(BS c.target h2).at (cP (.v _)) (l:=m1) (by omega)
 obtain⟨m3,e3,b3⟩:=(LQ c.root).at (cP (rH _)) (l:=m2) (by omega)
 obtain⟨m4,e4,b4⟩:=(aIf V nV).at (cP (bQ V)) (l:=m3) (by omega)
 rw[cG func231 rfl rfl]
 simp only[ZG,seval,aGS,e1,e2,e3,e4,hV,Ct,Cu,Jq,Jr];exact⟨_,uK rfl (by simp only[E8,seval]<;>rfl) (by simp only[E8,seval]<;>rfl) (wQ _),_,rfl,by omega⟩
def aQJ (x:Block) (h:RB x):WrN 210 [.agg (aU x)] 400:=by
 suffices h:∃r,aG prog 210 [.v (.slice none 0 0),.agg (aU x)]=some r/\∃m:List Int,r=.uniq 5 1 m.length (kM m)/\(m.length:Int)<=400 by
  obtain⟨r,h,m,rfl,h2⟩:=h;exact⟨m,h,h2⟩
 obtain⟨m1,e1,b1⟩:=(P7 x.slot h.sl).at (cP (.v _))
 obtain⟨m2,e2,b2⟩:=(LQ x.root).at (cP (rH _)) (l:=m1) (by omega)
 obtain⟨m3,e3,b3⟩:=(LQ x.parent).at (cP (rH _)) (l:=m2) (by omega)
 obtain⟨m4,e4,b4⟩:=(LQ x.gP).at (cP (rH _)) (l:=m3) (by omega)
 obtain⟨m5,e5,b5⟩:=(aMs x.diff).at (cP (.agg _ (iQ _))) (l:=m4) (by omega)
 obtain⟨m6,e6,b6⟩:=(aMs x.IV).at (cP (.agg _ (iQ _))) (l:=m5) (by omega)
 obtain⟨m7,e7,b7⟩:=(aA1 x.eI h.j).at (cP (.agg _ (bR _))) (l:=m6) (by omega)
 obtain⟨m8,e8,b8⟩:=(aA1 x.fin h.f).at (cP (.agg _ (bR _))) (l:=m7) (by omega)
 obtain⟨m9,e9,b9⟩:=(aA1 x.dW.pj h.pj).at (cP (.agg _ (bR _))) (l:=m8) (by omega)
 obtain⟨m10,e10,b10⟩:=(aA1 x.dW.pf h.pf).at (cP (.agg _ (bR _))) (l:=m9) (by omega)
 obtain⟨m11,e11,b11⟩:=(aQG x.wM).at (cP (.v _)) (l:=m10) (by omega)
 rw[cG func210 rfl rfl]
 simp only[ZG,seval,aMx,e1,e2,e3,e4,e5,e6,e7,e8,e9,e10,e11];exact⟨_,uK rfl (by simp only[E8,seval]<;>rfl) (by simp only[E8,seval]<;>rfl) (wQ _),_,rfl,by omega⟩
def yZ (r:AV):Prop:=∃(o:Option (List Int)) (e:Int),r=.eH [ov kM o,.v (.int .i64 e)]
def yZ.none (e:Int):yZ (.eH [.v (.slice none 0 0),.v (.int .i64 e)]):=⟨Option.none,e,rfl⟩
def yZ.some (l:List Int) (e:Int):yZ (.eH [.sl l.length (kM l),.v (.int .i64 e)]):=⟨Option.some l,e,rfl⟩
def aQK (a:rX) (V:Option (List Int)) (hV:a.eM=ov aM V) (nV:((ol V).length:Int)<=1000) (h1:Rg a.slot) (h2:Rg a.target.aE):∃r,aG prog 211 [.agg (iD a)]=some r/\yZ r:=by
 have PJ:=kx (c40 V (by omega) 1024) (bB (bQ V) (.v _)) (.v _)
 obtain⟨e,he⟩:∃e,Lk (ol V) 1024=e:=⟨_,rfl⟩
 rw[he] at PJ;obtain⟨m1,e1,b1⟩:=(P7 a.slot h1).at (cP (.v _))
 obtain⟨m2,e2,b2⟩:=(LQ a.root).at (cP (rH _)) (l:=m1) (by omega)
 obtain⟨m3,e3,b3⟩:=(aA1 a.target h2).at (cP (.agg _ (bR _))) (l:=m2) (by omega)
 obtain⟨m4,e4,b4⟩:=(aIf V nV).at (cP (bQ V)) (l:=m3) (by omega)
 rw[cG func211 rfl rfl]
 by_cases g:e=0
 ·simp only[ZG,seval,aGT,hV,PJ,bt g,e1,e2,e3,e4,Ct,Cu,Jq,Jr];exact⟨_,dN rfl rfl rfl (by simp only[E8,seval,Fb]<;>rfl) (by simp only[E8,seval,Fb]<;>rfl),yZ.some _ _⟩
 ·simp only[ZG,seval,aGT,hV,PJ,bf g];exact⟨_,dN rfl rfl rfl (by simp only[E8,seval]<;>rfl) (by simp only[E8,seval]<;>rfl),yZ.none _⟩
def aQL (a:gB) (h1:yA a.first) (h2:yA a.second) (r1:Rg a.first.source) (r2:Rg a.first.target) (r3:Rg a.second.source) (r4:Rg a.second.target):∃r,aG prog 212 [.agg (cD a)]=some r/\yZ r:=by
 obtain⟨V,hV,nV⟩:=id h1
 obtain⟨W,hW,nW⟩:=id h2
 have kV:=kx (c40 V (by omega) 1024) (bB (bQ V) (.v _)) (.v _)
 have kW:=kx (c40 W (by omega) 1024) (bB (bQ W) (.v _)) (.v _)
 obtain⟨ev,Ow⟩:∃e,Lk (ol V) 1024=e:=⟨_,rfl⟩
 obtain⟨ew,hew⟩:∃e,Lk (ol W) 1024=e:=⟨_,rfl⟩
 rw[Ow] at kV;rw[hew] at kW;obtain⟨m1,e1,b1⟩:=(aQI a.first V hV nV r1 r2).at (cP h1.fl)
 obtain⟨m2,e2,b2⟩:=(aQH a.second W hW nW r3 r4).at (cP h2.fl) (l:=m1) (by omega)
 rw[cL func212 rfl rfl];by_cases g1:ev=0
 case neg =>
  simp only[Z8,seval,hV,hW,kV,bf g1];exact⟨_,dN rfl rfl rfl (by simp only[E8,seval]<;>rfl) (by simp only[E8,seval]<;>rfl),yZ.none _⟩
 by_cases g2:ew=0
 case neg =>
  simp only[Z8,seval,hV,hW,kV,kW,bt g1,bf g2];exact⟨_,dN rfl rfl rfl (by simp only[E8,seval]<;>rfl) (by simp only[E8,seval]<;>rfl),yZ.none _⟩
 simp only[Z8,seval,hV,hW,kV,kW,bt g1,bt g2,e1,e2];exact⟨_,dN rfl rfl rfl (by simp only[E8,seval,Fb]<;>rfl) (by simp only[E8,seval,Fb]<;>rfl),yZ.some _ _⟩
def aQM (t:Table) (b:Option (List Int)) (hb:t.iF=ov bF b) (nb:((ol b).length:Int)<=1000) (rb:∀y∈ol b,Rg y) (rt:Rg t.ck.aE):∃r,aG prog 213 [.agg (bZ t)]=some r/\yZ r:=by
 have hfT:Flat (.agg (bZ t)):=(gZ t).2 (by rw[hb];exact dZ b)
 obtain⟨m1,e1,b1⟩:=(P7 t.ck.aE rt).at (cP (.v _))
 obtain⟨m2,e2,b2⟩:=(LQ t.ck.root).at (cP (rH _)) (l:=m1) (by omega)
 obtain⟨m3,e3,b3⟩:=(BS _ (iM ((ol b).length:Int))).at (cP (.v _)) (l:=m2) (by omega)
 rw[cG func213 rfl rfl]
 have g1:¬(1024:Int)<((ol b).length:Int):=by omega
 simp only[ZG,seval,RQ,hb,g1,e1,e2,e3,Ct,Cu,Jq,Jr];refine kZ (fun m st=>∃(k:Nat) (p:List Int) (a g:Nat),(st.env 1=.ptr 1 0 0/\st.heap 1 0=some (.cells (bZ t))/\st.env 4=.own a g/\st.heap a g=some (.row 5 1 p.length (kM p))/\st.env 5=.v (.int .i64 k))/\((a=22/\g=0)\/(a=36/\g<st.aQ 36))/\(p.length:Int)<=100+10 * k/\k<=(ol b).length/\m=(ol b).length-k)
  (fun e st=>e=.exit 0/\∃(p:List Int) (a g:Nat),st.env 4=.own a g/\st.heap a g=some (.row 5 1 p.length (kM p))) (ol b).length ?step ?start ?rest
 case step =>
  rintro m st ⟨k,p,a,g,hI,LP,hp,hk,hm⟩
  by_cases aW:(k:Int)<(ol b).length
  ·have q0:(0:Int)<=k:=by omega
   have hw:=wk (k:=k) (by omega)
   obtain⟨p',e4,b4⟩:=(BS _ (rb _ (nC (z:=(0:Int)) q0 aW))).at (cP (.v _)) (l:=p) (by omega)
   rcases LP with ⟨rfl,rfl⟩|⟨rfl,hg⟩
   ·apply Dr ((ol b).length-(k+1))
    ·simp only[ZG,seval,RQ,hI,aW,q0,hb,e4,hw];rfl
    ·exact⟨k+1,p',36,_,⟨by simp only[E8,seval,hI],by simp only[E8,seval,hI],by simp only[E8,seval]<;>rfl,by simp only[E8,seval]<;>rfl,by simp only[E8,seval]⟩,.inr ⟨rfl,by simp only[E8,seval]<;>omega⟩,by omega,by omega,rfl⟩
   ·have vQ:(g=st.aQ 36)=False:=eq_false (by omega)
    apply Dr ((ol b).length-(k+1))
    ·simp only[ZG,seval,RQ,hI,vQ,aW,q0,hb,e4,hw];rfl
    ·exact⟨k+1,p',36,_,⟨by simp only[E8,seval,hI],by simp only[E8,seval,hI],by simp only[E8,seval]<;>rfl,by simp only[E8,seval]<;>rfl,by simp only[E8,seval]⟩,.inr ⟨rfl,by simp only[E8,seval]<;>omega⟩,by omega,by omega,rfl⟩
  ·apply IY (.exit 0)
   ·simp only[ZG,seval,RQ,hI,aW,hb];rfl
   ·exact⟨rfl,p,a,g,by simp only[E8,seval,hI],by simp only[E8,seval,hI]⟩
 case start=>exact⟨0,m3,22,0,by and_intros<;>(simp only[E8,seval]<;>rfl),.inl ⟨rfl,rfl⟩,by omega,by omega,by omega⟩
 case rest =>
  rintro e st ⟨rfl,p,a,g,h4,hh⟩
  simp only[ZG,seval,RQ,h4,hh];exact⟨_,dN rfl rfl rfl (by simp only[E8,seval,h4,hh,Fb]<;>rfl) (by simp only[E8,seval,h4,hh,Fb]<;>rfl),yZ.some _ _⟩
def aQN (v:gV) (h:Rg v.tagged.tag):∃r,aG prog 214 [.agg (dK v)]=some r/\yZ r:=by
 obtain⟨m1,e1,b1⟩:=(P7 v.tagged.tag h).at (cP (.v _))
 obtain⟨m2,e2,b2⟩:=(BS _ (iM v.kind)).at (cP (.v _)) (l:=m1) (by omega)
 obtain⟨m3,e3,b3⟩:=(LQ v.dS).at (cP (rH _)) (l:=m2) (by omega)
 rw[cG func214 rfl rfl]
 by_cases g1:v.kind<1
 ·simp only[ZG,seval,aA5,g1];exact⟨_,dN rfl rfl rfl (by simp only[E8,seval]<;>rfl) (by simp only[E8,seval]<;>rfl),yZ.none _⟩
 by_cases g2:4<v.kind
 ·simp only[ZG,seval,aA5,g1,g2];exact⟨_,dN rfl rfl rfl (by simp only[E8,seval]<;>rfl) (by simp only[E8,seval]<;>rfl),yZ.none _⟩
 simp only[ZG,seval,aA5,g1,g2,e1,e2,e3];exact⟨_,dN rfl rfl rfl (by simp only[E8,seval,Fb]<;>rfl) (by simp only[E8,seval,Fb]<;>rfl),yZ.some _ _⟩
def aQO (x:yQ) (h:pX x):∃r,aG prog 200 [.agg (lD x)]=some r/\yZ r:=by
 have pH:=h.fl
 obtain⟨V,hV,nV⟩:=h.Il
 obtain⟨b,hb,nb,rb⟩:=h.PN
 obtain⟨m1,e1,b1⟩:=(aQJ x.block h.rb).at (cP (tW _))
 obtain⟨r2,e2,o2,f2,rfl⟩:=aQK x.Il V hV nV h.ra.1 h.ra.2
 obtain⟨r3,e3,o3,f3,rfl⟩:=aQL x.pL h.c1 h.c2 h.rs.1 h.rs.2.1 h.rs.2.2.1 h.rs.2.2.2
 obtain⟨r4,e4,o4,f4,rfl⟩:=aQM x.table b hb nb rb h.rt
 obtain⟨r5,e5,o5,f5,rfl⟩:=aQN x.verdict h.rv
 have k2:=kx e2 (cP ((Ax _).2 pH.1)) (.eH _ (bB (zZ _) (.v _)))
 have k3:=kx e3 (cP ((nM _).2 ⟨pH.2.1,pH.2.2.1⟩)) (.eH _ (bB (zZ _) (.v _)))
 have k4:=kx e4 (cP ((gZ _).2 pH.2.2.2)) (.eH _ (bB (zZ _) (.v _)))
 have k5:=kx e5 (cP (.agg _ (jW _))) (.eH _ (bB (zZ _) (.v _)))
 obtain⟨m6,e6,b6⟩:=(P7 _ (iM x.write)).at (cP (.v _))
 obtain⟨m7,e7,b7⟩:=(BS _ (iM x.pI)).at (cP (.v _)) (l:=m6) (by omega)
 rw[cL func200 rfl rfl];by_cases g2:x.kind=2
 ·simp only[Z8,seval,bt g2,e1];exact⟨_,dN rfl rfl rfl (by simp only[E8,seval,Fb]<;>rfl) (by simp only[E8,seval,Fb]<;>rfl),yZ.some _ _⟩
 by_cases g3:x.kind=3
 ·simp only[Z8,seval,bf g2,bt g3,k2,dR];exact⟨_,dN rfl rfl rfl (by simp only[E8,seval,rZ]<;>rfl) (by simp only[E8,seval,rZ]<;>rfl),_,_,rfl⟩
 by_cases g4:x.kind=4
 ·simp only[Z8,seval,bf g2,bf g3,bt g4,k3,dR];exact⟨_,dN rfl rfl rfl (by simp only[E8,seval,rZ]<;>rfl) (by simp only[E8,seval,rZ]<;>rfl),_,_,rfl⟩
 by_cases g5:x.kind=5
 ·simp only[Z8,seval,bf g2,bf g3,bf g4,bt g5,k4,dR];exact⟨_,dN rfl rfl rfl (by simp only[E8,seval,rZ]<;>rfl) (by simp only[E8,seval,rZ]<;>rfl),_,_,rfl⟩
 by_cases g6:x.kind=6
 ·simp only[Z8,seval,bf g2,bf g3,bf g4,bf g5,bt g6,k5,dR];exact⟨_,dN rfl rfl rfl (by simp only[E8,seval,rZ]<;>rfl) (by simp only[E8,seval,rZ]<;>rfl),_,_,rfl⟩
 by_cases g8:x.kind=8
 case neg =>
  simp only[Z8,seval,bf g2,bf g3,bf g4,bf g5,bf g6,bf g8];exact⟨_,dN rfl rfl rfl (by simp only[E8,seval]<;>rfl) (by simp only[E8,seval]<;>rfl),yZ.none _⟩
 by_cases w1:x.write<0
 ·simp only[Z8,seval,bf g2,bf g3,bf g4,bf g5,bf g6,bt g8,w1];exact⟨_,dN rfl rfl rfl (by simp only[E8,seval]<;>rfl) (by simp only[E8,seval]<;>rfl),yZ.none _⟩
 by_cases w2:32768<x.write
 ·simp only[Z8,seval,bf g2,bf g3,bf g4,bf g5,bf g6,bt g8,w1,w2];exact⟨_,dN rfl rfl rfl (by simp only[E8,seval]<;>rfl) (by simp only[E8,seval]<;>rfl),yZ.none _⟩
 by_cases w3:x.pI<0
 ·simp only[Z8,seval,bf g2,bf g3,bf g4,bf g5,bf g6,bt g8,w1,w2,w3];exact⟨_,dN rfl rfl rfl (by simp only[E8,seval]<;>rfl) (by simp only[E8,seval]<;>rfl),yZ.none _⟩
 by_cases w4:32768<x.pI
 ·simp only[Z8,seval,bf g2,bf g3,bf g4,bf g5,bf g6,bt g8,w1,w2,w3,w4];exact⟨_,dN rfl rfl rfl (by simp only[E8,seval]<;>rfl) (by simp only[E8,seval]<;>rfl),yZ.none _⟩
 simp only[Z8,seval,bf g2,bf g3,bf g4,bf g5,bf g6,bt g8,w1,w2,w3,w4,e6,e7];exact⟨_,dN rfl rfl rfl (by simp only[E8,seval,Fb]<;>rfl) (by simp only[E8,seval,Fb]<;>rfl),yZ.some _ _⟩
def I0:Rg 0:=⟨by omega,by omega⟩
def zOk:pX Be:=⟨⟨none,rfl,by simp[ol]⟩,⟨none,rfl,by simp[ol]⟩,⟨none,rfl,by simp[ol]⟩,⟨none,rfl,by simp[ol],by simp[ol]⟩,⟨I0,I0,I0,I0,I0⟩,⟨I0,I0⟩,⟨I0,I0,I0,I0⟩,I0,I0⟩
def aQP (x:yQ) (h:pX x):∃r,aG prog 184 [.agg (lD x)]=some r/\∃e:Int,r=.v (.int .i64 e):=by
 have z:=zOk
 have hf:=h.flat
 obtain⟨r1,e1,o1,e,rfl⟩:=aQO x h
 have RR:=kx e1 (cP hf) (.eH _ (bB (zZ _) (.v _)))
 rw[cG func184 rfl rfl]
 by_cases g1:x.kind<1
 ·simp only[ZG,seval,Nn,g1];exact⟨_,bT rfl,_,rfl⟩
 by_cases g9:8<x.kind
 ·simp only[ZG,seval,Nn,g1,g9];exact⟨_,bT rfl,_,rfl⟩
 by_cases g0:e=0
 case neg =>
  simp only[ZG,seval,Nn,g1,g9,RR,dR,bf g0];exact⟨_,bT rfl,_,rfl⟩
 by_cases k2:x.kind=2
 ·have hy:pX { Be with kind:=x.kind,block:=x.block }:=⟨z.Il,z.c1,z.c2,z.PN,h.rb,z.ra,z.rs,z.rt,z.rv⟩
  obtain⟨r2,e2,B,rfl⟩:=ZO x { Be with kind:=x.kind,block:=x.block } h hy
  have Uu:=kx e2 (bB hf hy.flat) (.v _)
  have LH:=h.fl
  cases B
  all_goals
   simp only[ZG,seval,Nn,g1,g9,RR,dR,bt g0,bt k2,Uu,Ct,Cu,Jq,Jr];exact⟨_,bT rfl,_,rfl⟩
 by_cases k3:x.kind=3
 ·have hy:pX { Be with kind:=x.kind,Il:=x.Il }:=⟨h.Il,z.c1,z.c2,z.PN,z.rb,h.ra,z.rs,z.rt,z.rv⟩
  obtain⟨r2,e2,B,rfl⟩:=ZO x { Be with kind:=x.kind,Il:=x.Il } h hy
  have Uu:=kx e2 (bB hf hy.flat) (.v _)
  have LH:=h.fl
  cases B
  all_goals
   simp only[ZG,seval,Nn,g1,g9,RR,dR,bt g0,bf k2,bt k3,Uu,Ct,Cu,Jq,Jr];exact⟨_,bT rfl,_,rfl⟩
 by_cases k4:x.kind=4
 ·have hy:pX { Be with kind:=x.kind,pL:=x.pL }:=⟨z.Il,h.c1,h.c2,z.PN,z.rb,z.ra,h.rs,z.rt,z.rv⟩
  obtain⟨r2,e2,B,rfl⟩:=ZO x { Be with kind:=x.kind,pL:=x.pL } h hy
  have Uu:=kx e2 (bB hf hy.flat) (.v _)
  have LH:=h.fl
  cases B
  all_goals
   simp only[ZG,seval,Nn,g1,g9,RR,dR,bt g0,bf k2,bf k3,bt k4,Uu,Ct,Cu,Jq,Jr];exact⟨_,bT rfl,_,rfl⟩
 by_cases k5:x.kind=5
 ·have hy:pX { Be with kind:=x.kind,table:=x.table }:=⟨z.Il,z.c1,z.c2,h.PN,z.rb,z.ra,z.rs,h.rt,z.rv⟩
  obtain⟨r2,e2,B,rfl⟩:=ZO x { Be with kind:=x.kind,table:=x.table } h hy
  have Uu:=kx e2 (bB hf hy.flat) (.v _)
  have LH:=h.fl
  cases B
  all_goals
   simp only[ZG,seval,Nn,g1,g9,RR,dR,bt g0,bf k2,bf k3,bf k4,bt k5,Uu,Ct,Cu,Jq,Jr];exact⟨_,bT rfl,_,rfl⟩
 by_cases k6:x.kind=6
 ·have hy:pX { Be with kind:=x.kind,verdict:=x.verdict }:=⟨z.Il,z.c1,z.c2,z.PN,z.rb,z.ra,z.rs,z.rt,h.rv⟩
  obtain⟨r2,e2,B,rfl⟩:=ZO x { Be with kind:=x.kind,verdict:=x.verdict } h hy
  have Uu:=kx e2 (bB hf hy.flat) (.v _)
  have LH:=h.fl
  cases B
  all_goals
   simp only[ZG,seval,Nn,g1,g9,RR,dR,bt g0,bf k2,bf k3,bf k4,bf k5,bt k6,Uu,Ct,Cu,Jq,Jr];exact⟨_,bT rfl,_,rfl⟩
 by_cases k8:x.kind=8
 ·have hy:pX { Be with kind:=x.kind,write:=x.write,pI:=x.pI }:=⟨z.Il,z.c1,z.c2,z.PN,z.rb,z.ra,z.rs,z.rt,z.rv⟩
  obtain⟨r2,e2,B,rfl⟩:=ZO x { Be with kind:=x.kind,write:=x.write,pI:=x.pI } h hy
  have Uu:=kx e2 (bB hf hy.flat) (.v _)
  have LH:=h.fl
  cases B
  all_goals
   simp only[ZG,seval,Nn,g1,g9,RR,dR,bt g0,bf k2,bf k3,bf k4,bf k5,bf k6,bt k8,Uu,Ct,Cu,Jq,Jr];exact⟨_,bT rfl,_,rfl⟩
 have hy:pX { Be with kind:=x.kind }:=⟨z.Il,z.c1,z.c2,z.PN,z.rb,z.ra,z.rs,z.rt,z.rv⟩
 obtain⟨r2,e2,B,rfl⟩:=ZO x { Be with kind:=x.kind } h hy
 have Uu:=kx e2 (bB hf hy.flat) (.v _)
 have LH:=h.fl
 cases B
 all_goals
  simp only[ZG,seval,Nn,g1,g9,RR,dR,bt g0,bf k2,bf k3,bf k4,bf k5,bf k6,bf k8,Uu,Ct,Cu,Jq,Jr];exact⟨_,bT rfl,_,rfl⟩
def x45 (n bits:Int) (h0:0<n) (h1:n<=1000):∃r,aG prog 45 [.v (.int .i64 n),.v (.int .i64 bits)]=some r/\∃l:List Int,r=.uniq 3 1 l.length (aM l)/\(l.length:Int)<=n:=by
 rw[cL func45 rfl rfl];simp only[Z8,seval];refine cA (fun m st=>∃k:Nat,(st.env 0=.v (.int .i64 n)/\st.env 1=.v (.int .i64 bits)/\st.env 6=.v (.int .i64 k))/\(st.env 5=.v (.slice none 0 0)\/∃(l:List Int) (g:Nat),(st.env 5=.own 21 g/\st.heap 21 g=some (.row 3 1 l.length (aM l)))/\g<st.aQ 21/\0<l.length/\l.length<=k)/\(k:Int)<=n/\m=(n-k).toNat)
  (fun e st=>e=.exit 0/\st.env 0=.v (.int .i64 n)/\(st.env 5=.v (.slice none 0 0)\/∃(l:List Int) (g:Nat),(st.env 5=.own 21 g/\st.heap 21 g=some (.row 3 1 l.length (aM l)))/\0<l.length/\(l.length:Int)<=n)) n.toNat ?step ?start ?rest
 case step =>
  rintro m st ⟨k,hI,h5,hk,hm⟩
  by_cases aW:(k:Int)<n
  ·have q0:(0:Int)<=k:=by omega
   have hw:=wk (k:=k) (by omega)
   by_cases hh:i64.wrap ((BitVec.ofInt i64.bits (bits.fdiv (2 ^ min (u64.wrap (k:Int)).toNat i64.bits)) &&& BitVec.ofInt i64.bits 1).toNat:Int)=1
   ·rcases h5 with h5|⟨l,g,h5,hg,hl0,hl⟩
    ·apply oN ((n-((k+1:Nat):Int)).toNat)
     ·simp only[Z8,seval,hI,h5,aW,q0,yY,bt hh,hw];rfl
     ·exact⟨k+1,by simp only[E8,seval,hI],.inr ⟨[(k:Int)],_,⟨by simp only[E8,seval]<;>rfl,by simp only[E8,seval]<;>rfl⟩,by simp only[E8,seval]<;>omega,by simp,by simp⟩,by omega,rfl⟩
    ·have vQ:(g=st.aQ 21)=False:=eq_false (by omega)
     have nl:(l.length:Int)<1000000:=by omega
     apply oN ((n-((k+1:Nat):Int)).toNat)
     ·simp only[Z8,seval,hI,h5,vQ,aW,q0,yY,bt hh,hw,He _ _ _ _ nl];rfl
     ·exact⟨k+1,by simp only[E8,seval,hI],.inr ⟨l++[(k:Int)],_,⟨by simp only[E8,seval]<;>rfl,by simp only[E8,seval]<;>rfl⟩,by simp only[E8,seval]<;>omega,by simp,by rw[length_append,length_cons,length_nil];omega⟩,by omega,rfl⟩
   ·have h5':st.env 5=.v (.slice none 0 0)\/∃(l:List Int) (g:Nat),(st.env 5=.own 21 g/\st.heap 21 g=some (.row 3 1 l.length (aM l)))/\g<st.aQ 21/\0<l.length/\l.length<=k+1:=h5.imp id fun ⟨l,g,a,b,c,d⟩=>⟨l,g,a,b,c,by omega⟩
    apply oN ((n-((k+1:Nat):Int)).toNat)
    ·simp only[Z8,seval,hI,aW,q0,yY,bf hh,hw];rfl
    ·exact⟨k+1,by simp only[E8,seval,hI],by simpa only[E8,seval] using h5',by omega,rfl⟩
  ·have h5':st.env 5=.v (.slice none 0 0)\/∃(l:List Int) (g:Nat),(st.env 5=.own 21 g/\st.heap 21 g=some (.row 3 1 l.length (aM l)))/\0<l.length/\(l.length:Int)<=n:=h5.imp id fun ⟨l,g,a,b,c,d⟩=>⟨l,g,a,c,by omega⟩
   apply oT (.exit 0)
   ·simp only[Z8,seval,hI,aW];rfl
   ·exact⟨rfl,by simp only[E8,seval,hI],by simpa only[E8,seval] using h5'⟩
 case start=>exact⟨0,by simp only[E8,seval]<;>rfl,.inl (by simp only[E8,seval]),by omega,by simp⟩
 case rest =>
  rintro e st ⟨rfl,h0',h5|⟨l,g,h5,hl0,hl⟩⟩
  ·simp only[Z8,seval,h0',h5,h0];exact⟨_,Rq (n:=([0]:List Int).length) (cs:=aM [0]) (aJ (by decide)) (.inl rfl) rfl (by simp only[E8,seval]<;>rfl) (by simp only[E8,seval]<;>rfl) (gG _),_,rfl,by simp;omega⟩
  ·have hn0:¬((l.length:Int)=0):=by omega
   simp only[Z8,seval,h0',h5,bf hn0];exact⟨_,uK rfl (by simp only[E8,seval,h5]<;>rfl) (by simp only[E8,seval,h5]<;>rfl) (gG _),l,rfl,hl⟩
def k45 (n bits:Int) (h0:0<n) (h1:n<=1000):∃l:List Int,(∀(st:St) (d:Nat),bH (aG prog) 45 [.v (.int .i64 n),.v (.int .i64 bits)] st (some d)=some { dst:=some d,val:=.own d (st.aQ d),new:=some (d,[.row 3 1 l.length (aM l)])})/\(l.length:Int)<=n:=by
 obtain⟨r,hr,l,rfl,hl⟩:=x45 n bits h0 h1
 exact⟨l,fun st d=>jM (bB (.v _) (.v _)) hr,hl⟩
def x92 {s:aL} {v:SV} {q:Int} (h:GI s v q) (r:RG s v) (i e:Int) (he:Rg e):∃x,aG prog 92 [.agg (aA s),.v (.int .i64 i),.v (.int .u64 e)]=some x/\∃c:dL,x=.agg (bG c)/\Rg c.aE:=by
 have aA6:=PX v.ns h.up h.sd.nn i (u64.wrap (e * s.cFg.jS))
 have hr:=IW h.up (i:=i) (s:=u64.wrap (e * s.cFg.jS))
 obtain⟨k,hk⟩:∃k,HX v.ns i (u64.wrap (e * s.cFg.jS))=k:=⟨_,rfl⟩
 rw[hk] at aA6 hr
 rw[cL func92 rfl rfl];by_cases g1:k<0
 ·simp only[Z8,seval,h.sd.tree,aA6,g1];exact⟨_,fM rfl (by simp only[E8,seval,Cq]<;>rfl) (by simp only[Z8,seval,Cq]<;>rfl) (by simp only[jE,and_self,Cq]),_,rfl,r.f⟩
 ·have k0:0<=k:=by omega
  have k1:k<v.ns.length:=by omega
  simp only[Z8,seval,h.sd.tree,aA6,g1,k0,k1];exact⟨_,fM rfl (by simp only[E8,seval,Cq]<;>rfl) (by simp only[Z8,seval,Cq]<;>rfl) (by simp only[jE,and_self,Cq]),_,rfl,he⟩
def aQS (n:Int):∃x,aG prog 111 [.v (.int .i64 n)]=some x/\∃w:rD,x=.agg (gI w):=by
 obtain⟨j,hj⟩:∃j,(i64.wrap ((BitVec.ofInt i64.bits (((n).fdiv (2 ^ min 9 i64.bits))) &&& BitVec.ofInt i64.bits 3).toNat:Int))=j:=⟨_,rfl⟩
 have hb:=Ek ((n).fdiv (2 ^ min 9 i64.bits)) 3 (by decide)
 rw[hj] at hb;have j0:=hb.1
 have j1:j<4:=by omega
 have j3:j.toNat<4:=by omega
 have j4:j.toNat<=3:=by omega
 have zM:∀(w:rD) (x:Int),dP (gI w) j.toNat [.v (.int .u64 x)] (j.toNat+1)=gI (w.set j.toNat x):=fun w x=>pY w j.toNat _ x j3 rfl
 have fw:∀w:rD,Flat (.agg (gI w))=True:=fun w=>eq_true (.agg _ (iQ w))
 rw[cL func111 rfl rfl];by_cases c1:(i64.wrap ((BitVec.ofInt i64.bits (((n).fdiv (2 ^ min 7 i64.bits))) &&& BitVec.ofInt i64.bits 3).toNat:Int))=1
 ·simp only[Z8,seval,bt c1,pY,Nat.reduceLT,Jo,hj,j0,j1,j4,zM,Nat.mul_one,yY];exact⟨_,fM rfl (by simp only[E8,seval,fw]<;>rfl) (by simp only[Z8,seval,fw]<;>rfl) (by simp only[jE,and_self,fw]),_,rfl⟩
 by_cases c2:(i64.wrap ((BitVec.ofInt i64.bits (((n).fdiv (2 ^ min 7 i64.bits))) &&& BitVec.ofInt i64.bits 3).toNat:Int))=2
 ·simp only[Z8,seval,bf c1,bt c2,pY,Nat.reduceLT,Jo,hj,j0,j1,j4,zM,Nat.mul_one,yY];exact⟨_,fM rfl (by simp only[E8,seval,fw]<;>rfl) (by simp only[Z8,seval,fw]<;>rfl) (by simp only[jE,and_self,fw]),_,rfl⟩
 by_cases c3:(i64.wrap ((BitVec.ofInt i64.bits (((n).fdiv (2 ^ min 7 i64.bits))) &&& BitVec.ofInt i64.bits 3).toNat:Int))=3
 ·simp only[Z8,seval,bf c1,bf c2,bt c3,pY,Nat.reduceLT,Jo,hj,j0,j1,j4,zM,Nat.mul_one,yY];exact⟨_,fM rfl (by simp only[E8,seval,fw]<;>rfl) (by simp only[Z8,seval,fw]<;>rfl) (by simp only[jE,and_self,fw]),_,rfl⟩
 simp only[Z8,seval,bf c1,bf c2,bf c3,pY,Nat.reduceLT,Jo,hj,j0,j1,j4,zM,Nat.mul_one,yY];exact⟨_,fM rfl (by simp only[E8,seval,fw]<;>rfl) (by simp only[Z8,seval,fw]<;>rfl) (by simp only[jE,and_self,fw]),_,rfl⟩
def aQT (n k:Int) (h0:0<n) (h1:n<=1000):∃r,aG prog 182 [.v (.int .i64 n),.v (.int .i64 k)]=some r/\∃x:gB,r=.agg (cD x)/\yA x.first/\yA x.second/\Rg x.first.source/\Rg x.first.target/\Rg x.second.source/\Rg x.second.target:=by
 obtain⟨l,kl,hl⟩:=k45 n k h0 h1
 obtain⟨m,km,hm⟩:=k45 n ((k).fdiv (2 ^ min 6 i64.bits)) h0 h1
 have cl:yA ⟨1,5,mkRoot 2,ov aM (some l)⟩:=⟨some l,rfl,by show (l.length:Int)<=1000;omega⟩
 have rg:∀x:Int,0<=x/\x<=6->Rg x:=fun x h=>⟨by omega,by omega⟩
 have okl:∀a b r,yA ⟨a,b,r,ov aM (some l)⟩:=fun a b r=>⟨some l,rfl,by show (l.length:Int)<=1000;omega⟩
 have okm:∀a b r,yA ⟨a,b,r,ov aM (some m)⟩:=fun a b r=>⟨some m,rfl,by show (m.length:Int)<=1000;omega⟩
 rw[cL func182 rfl rfl];by_cases c0:((((k).fdiv (2 ^ min 12 i64.bits))).tmod 8)=0
 ·simp only[Z8,seval,kl,km,Tw,bt c0];exact⟨_,by apply eG;rfl;all_goals simp only[aJ,Z8,seval,bP,sA,wR,bM,cY,kE,jE]<;>rfl,_,rfl,okm _ _ _,okl _ _ _,rg _ (by dsimp only;omega),rg _ (by dsimp only;omega),rg _ (by dsimp only;omega),rg _ (by dsimp only;omega)⟩
 by_cases c1:((((k).fdiv (2 ^ min 12 i64.bits))).tmod 8)=1
 ·simp only[Z8,seval,kl,km,Tw,bf c0,bt c1];exact⟨_,by apply eG;rfl;all_goals simp only[aJ,Z8,seval,bP,sA,wR,bM,cY,kE,jE]<;>rfl,_,rfl,okl _ _ _,okm _ _ _,rg _ (by dsimp only;omega),rg _ (by dsimp only;omega),rg _ (by dsimp only;omega),rg _ (by dsimp only;omega)⟩
 by_cases c2:((((k).fdiv (2 ^ min 12 i64.bits))).tmod 8)=2
 ·simp only[Z8,seval,kl,km,Tw,bf c0,bf c1,bt c2];exact⟨_,by apply eG;rfl;all_goals simp only[aJ,Z8,seval,bP,sA,wR,bM,cY,kE,jE]<;>rfl,_,rfl,okl _ _ _,okl _ _ _,rg _ (by dsimp only;omega),rg _ (by dsimp only;omega),rg _ (by dsimp only;omega),rg _ (by dsimp only;omega)⟩
 by_cases c3:((((k).fdiv (2 ^ min 12 i64.bits))).tmod 8)=3
 ·simp only[Z8,seval,kl,km,Tw,bf c0,bf c1,bf c2,bt c3];exact⟨_,by apply eG;rfl;all_goals simp only[aJ,Z8,seval,bP,sA,wR,bM,cY,kE,jE]<;>rfl,_,rfl,okl _ _ _,okm _ _ _,rg _ (by dsimp only;omega),rg _ (by dsimp only;omega),rg _ (by dsimp only;omega),rg _ (by dsimp only;omega)⟩
 by_cases c4:((((k).fdiv (2 ^ min 12 i64.bits))).tmod 8)=4
 ·simp only[Z8,seval,kl,km,Tw,bf c0,bf c1,bf c2,bf c3,bt c4];exact⟨_,by apply eG;rfl;all_goals simp only[aJ,Z8,seval,bP,sA,wR,bM,cY,kE,jE]<;>rfl,_,rfl,okl _ _ _,okm _ _ _,rg _ (by dsimp only;omega),rg _ (by dsimp only;omega),rg _ (by dsimp only;omega),rg _ (by dsimp only;omega)⟩
 simp only[Z8,seval,kl,km,Tw,bf c0,bf c1,bf c2,bf c3,bf c4];exact⟨_,by apply eG;rfl;all_goals simp only[aJ,Z8,seval,bP,sA,wR,bM,cY,kE,jE]<;>rfl,_,rfl,okl _ _ _,okm _ _ _,rg _ (by dsimp only;omega),rg _ (by dsimp only;omega),rg _ (by dsimp only;omega),rg _ (by dsimp only;omega)⟩
def aQU {s:aL} {v:SV} {q:Int} (h:GI s v q) (r:RG s v) (hB:0<(ol v.B).length/\(ol v.B).length<=64) (k:Int) (hk:0<=k):∃x,aG prog 183 [.agg (aA s),.v (.int .i64 k)]=some x/\∃(t:Table) (b:List Int),x=.agg (bZ t)/\t.iF=ov bF (some b)/\(b.length:Int)<=1000/\(∀y∈b,Rg y)/\Rg t.ck.aE:=by
 have hn:=h.sd.nn
 have hp:(0:Int)<(v.ns.length:Int):=by have:=h.pos;omega
 have gJ:¬((v.ns.length:Int)=0):=by omega
 obtain⟨m1,m2⟩:=cU (n:=(v.ns.length:Int)) hk hp
 obtain⟨i,hi⟩:∃i,k.tmod (v.ns.length:Int)=i:=⟨_,rfl⟩
 rw[hi] at m1 m2;have Qi:=h.sp
 obtain⟨y,hy,c2,rfl,rc2⟩:=x92 h r i (wL s s.now) (iM _)
 unfold wL at hy;have Uv:=kx hy (mM h.sd.flat (.v _) (.v _)) (.agg _ (bR _))
 have rc1:Rg (nd v.ns i).block.dW.pj.aE:=(r.nd _ (tN m1 m2)).1.pj
 rw[cL func183 rfl rfl];by_cases c0:((((k).fdiv (2 ^ min 5 i64.bits))).tmod 4)=0
 case neg =>
  simp only[Z8,seval,h.sd.tree,gJ,hi,m1,m2,bf c0];refine cA (fun m st=>∃(j:Nat) (X:AV) (L:List Int),(st.env 1=.v (.int .i64 k)/\st.env 2=.ptr 2 0 0/\st.heap 2 0=some (.cells (aA s))/\st.env 4=.ptr 4 0 0/\st.heap 4 0=some (.cells (bZ dM))/\st.env 6=.ptr 6 0 0/\st.heap 6 0=some (.cells (bZ ⟨(nd v.ns i).block.dW.pj,X⟩))/\st.env 7=.v (.int .i64 j))/\((X=.v (.slice none 0 0)/\L=[])\/∃g,X=.own 55 g/\g<st.aQ 55/\st.heap 55 g=some (.row 23 1 L.length (bF L)))/\(∀y∈L,Rg y)/\L.length=j/\j<=(ol v.B).length/\m=(ol v.B).length-j)
   (fun e st=>e=.exit 0/\∃(g:Nat) (L:List Int),(st.env 1=.v (.int .i64 k)/\st.env 2=.ptr 2 0 0/\st.heap 2 0=some (.cells (aA s))/\st.env 4=.ptr 4 0 0/\st.heap 4 0=some (.cells (bZ dM))/\st.env 6=.ptr 6 0 0/\st.heap 6 0=some (.cells (bZ ⟨(nd v.ns i).block.dW.pj,.own 55 g⟩))/\st.heap 55 g=some (.row 23 1 L.length (bF L)))/\(∀y∈L,Rg y)/\L.length=(ol v.B).length) (ol v.B).length ?step ?start ?rest
  case step =>
   rintro m st ⟨j,X,L,hI,hX,hL,hj,hjB,hm⟩
   by_cases aW:(j:Int)<(ol v.B).length
   ·have q0:(0:Int)<=j:=by omega
    have hw:=wk (k:=j) (by omega)
    have nL:(L.length:Int)<1000000:=by omega
    obtain⟨y,hy9⟩:∃y,u64.wrap ((k.fdiv (2 ^ min (u64.wrap (j:Int)).toNat i64.bits)).tmod 50)=y:=⟨_,rfl⟩
    have ry:Rg y:=by rw[<- hy9];exact iM _
    have Zg:∀z∈L++[y],Rg z:=fun z hz=>(mem_append.1 hz).elim (hL z) fun e=>by rw[mem_singleton] at e;rw[e];exact ry
    have zL:(L++[y]).length=j+1:=by rw[length_append,length_cons,length_nil];omega
    rcases hX with ⟨rfl,rfl⟩|⟨g,rfl,hg,hh⟩
    ·apply oN ((ol v.B).length-(j+1))
     ·simp only[Z8,seval,hI,aW,q0,h.sd.iF,yY,hy9,hw];rfl
     ·exact⟨j+1,_,[]++[y],⟨by simp only[E8,seval,hI],by simp only[E8,seval,hI],by simp only[E8,seval,hI],by simp only[E8,seval,hI],by simp only[E8,seval,hI],by simp only[E8,seval,hI],by simp only[E8,seval,hI]<;>rfl,by simp only[E8,seval]⟩,.inr ⟨_,rfl,by simp only[E8,seval]<;>omega,by simp only[E8,seval]<;>rfl⟩,Zg,zL,by omega,rfl⟩
    ·have vQ:(g=st.aQ 55)=False:=eq_false (by omega)
     apply oN ((ol v.B).length-(j+1))
     ·simp only[Z8,seval,hI,hh,vQ,aW,q0,h.sd.iF,yY,hy9,hw,xK _ _ _ _ nL];rfl
     ·exact⟨j+1,_,L++[y],⟨by simp only[E8,seval,hI],by simp only[E8,seval,hI],by simp only[E8,seval,hI],by simp only[E8,seval,hI],by simp only[E8,seval,hI],by simp only[E8,seval,hI],by simp only[E8,seval,hI]<;>rfl,by simp only[E8,seval]⟩,.inr ⟨_,rfl,by simp only[E8,seval]<;>omega,by simp only[E8,seval]<;>rfl⟩,Zg,zL,by omega,rfl⟩
   ·rcases hX with ⟨rfl,rfl⟩|⟨g,rfl,hg,hh⟩
    ·simp at hj;omega
    ·apply oT (.exit 0)
     ·simp only[Z8,seval,hI,aW,h.sd.iF];rfl
     ·exact⟨rfl,g,L,by simp only[E8,seval,hI,hh],hL,by omega⟩
  case start=>exact⟨0,_,[],by and_intros<;>(simp only[E8,seval]<;>rfl),.inl ⟨rfl,rfl⟩,by simp,rfl,by omega,by omega⟩
  case rest =>
   rintro e st ⟨rfl,g,L,hI,hL,hlL⟩
   have nL:(L.length:Int)<1000000:=by omega
   by_cases d0:((((k).fdiv (2 ^ min 12 i64.bits))).tmod 16)=0
   ·have Zg:∀z∈L++[(1:Int)],Rg z:=fun z hz=>(mem_append.1 hz).elim (hL z) fun e=>by rw[mem_singleton] at e;rw[e];exact⟨by omega,by omega⟩
    simp only[Z8,seval,hI,bt d0,xK _ _ _ _ nL];exact⟨_,by apply eG;rfl;all_goals simp only[aJ,Z8,seval,hI,bP,tZ,bM,vA,jE]<;>rfl,⟨(nd v.ns i).block.dW.pj,_⟩,L++[1],rfl,rfl,by rw[length_append,length_cons,length_nil];omega,Zg,rc1⟩
   by_cases d1:((((k).fdiv (2 ^ min 12 i64.bits))).tmod 16)=1
   ·have z0:(0:Int)<=0:=by omega
    have z1:(0:Int)<(L.length:Int):=by omega
    have z2:0<L.length:=by omega
    have z3:1<=L.length:=z2
    have Zg:∀z∈L.set 0 4611686018427387904,Rg z:=fun z hz=>(mem_or_eq_of_mem_set hz).elim (hL z) fun e=>by rw[e];exact⟨by omega,by omega⟩
    have tG:dP (bF L) 0 [.v (.int .u64 4611686018427387904)] 1=bF (L.set 0 4611686018427387904):=by
     cases L with
     | nil=>simp at z2
     | cons a L=>simp[dP,bF,lV]
    simp only[Z8,seval,hI,bf d0,bt d1,z0,z1,z3,tG,Int.toNat_zero,Nat.zero_mul];exact⟨_,by apply eG;rfl;all_goals simp only[aJ,Z8,seval,hI,bP,tZ,bM,vA,jE]<;>rfl,⟨(nd v.ns i).block.dW.pj,_⟩,L.set 0 4611686018427387904,rfl,by simp only[ov,length_set],by rw[length_set];omega,Zg,rc1⟩
   simp only[Z8,seval,hI,bf d0,bf d1];exact⟨_,by apply eG;rfl;all_goals simp only[aJ,Z8,seval,hI,bP,tZ,bM,vA,jE]<;>rfl,⟨(nd v.ns i).block.dW.pj,_⟩,L,rfl,rfl,by omega,hL,rc1⟩
 simp only[Z8,seval,h.sd.tree,gJ,hi,m1,m2,bt c0,Qi,Uv];refine cA (fun m st=>∃(j:Nat) (X:AV) (L:List Int),(st.env 1=.v (.int .i64 k)/\st.env 2=.ptr 2 0 0/\st.heap 2 0=some (.cells (aA s))/\st.env 4=.ptr 4 0 0/\st.heap 4 0=some (.cells (bZ dM))/\st.env 6=.ptr 6 0 0/\st.heap 6 0=some (.cells (bZ ⟨c2,X⟩))/\st.env 7=.v (.int .i64 j))/\((X=.v (.slice none 0 0)/\L=[])\/∃g,X=.own 55 g/\g<st.aQ 55/\st.heap 55 g=some (.row 23 1 L.length (bF L)))/\(∀y∈L,Rg y)/\L.length=j/\j<=(ol v.B).length/\m=(ol v.B).length-j)
  (fun e st=>e=.exit 0/\∃(g:Nat) (L:List Int),(st.env 1=.v (.int .i64 k)/\st.env 2=.ptr 2 0 0/\st.heap 2 0=some (.cells (aA s))/\st.env 4=.ptr 4 0 0/\st.heap 4 0=some (.cells (bZ dM))/\st.env 6=.ptr 6 0 0/\st.heap 6 0=some (.cells (bZ ⟨c2,.own 55 g⟩))/\st.heap 55 g=some (.row 23 1 L.length (bF L)))/\(∀y∈L,Rg y)/\L.length=(ol v.B).length) (ol v.B).length ?step ?start ?rest
 case step =>
  rintro m st ⟨j,X,L,hI,hX,hL,hj,hjB,hm⟩
  by_cases aW:(j:Int)<(ol v.B).length
  ·have q0:(0:Int)<=j:=by omega
   have hw:=wk (k:=j) (by omega)
   have nL:(L.length:Int)<1000000:=by omega
   obtain⟨y,hy9⟩:∃y,u64.wrap ((k.fdiv (2 ^ min (u64.wrap (j:Int)).toNat i64.bits)).tmod 50)=y:=⟨_,rfl⟩
   have ry:Rg y:=by rw[<- hy9];exact iM _
   have Zg:∀z∈L++[y],Rg z:=fun z hz=>(mem_append.1 hz).elim (hL z) fun e=>by rw[mem_singleton] at e;rw[e];exact ry
   have zL:(L++[y]).length=j+1:=by rw[length_append,length_cons,length_nil];omega
   rcases hX with ⟨rfl,rfl⟩|⟨g,rfl,hg,hh⟩
   ·apply oN ((ol v.B).length-(j+1))
    ·simp only[Z8,seval,hI,aW,q0,h.sd.iF,yY,hy9,hw];rfl
    ·exact⟨j+1,_,[]++[y],⟨by simp only[E8,seval,hI],by simp only[E8,seval,hI],by simp only[E8,seval,hI],by simp only[E8,seval,hI],by simp only[E8,seval,hI],by simp only[E8,seval,hI],by simp only[E8,seval,hI]<;>rfl,by simp only[E8,seval]⟩,.inr ⟨_,rfl,by simp only[E8,seval]<;>omega,by simp only[E8,seval]<;>rfl⟩,Zg,zL,by omega,rfl⟩
   ·have vQ:(g=st.aQ 55)=False:=eq_false (by omega)
    apply oN ((ol v.B).length-(j+1))
    ·simp only[Z8,seval,hI,hh,vQ,aW,q0,h.sd.iF,yY,hy9,hw,xK _ _ _ _ nL];rfl
    ·exact⟨j+1,_,L++[y],⟨by simp only[E8,seval,hI],by simp only[E8,seval,hI],by simp only[E8,seval,hI],by simp only[E8,seval,hI],by simp only[E8,seval,hI],by simp only[E8,seval,hI],by simp only[E8,seval,hI]<;>rfl,by simp only[E8,seval]⟩,.inr ⟨_,rfl,by simp only[E8,seval]<;>omega,by simp only[E8,seval]<;>rfl⟩,Zg,zL,by omega,rfl⟩
  ·rcases hX with ⟨rfl,rfl⟩|⟨g,rfl,hg,hh⟩
   ·simp at hj;omega
   ·apply oT (.exit 0)
    ·simp only[Z8,seval,hI,aW,h.sd.iF];rfl
    ·exact⟨rfl,g,L,by simp only[E8,seval,hI,hh],hL,by omega⟩
 case start=>exact⟨0,_,[],by and_intros<;>(simp only[E8,seval]<;>rfl),.inl ⟨rfl,rfl⟩,by simp,rfl,by omega,by omega⟩
 case rest =>
  rintro e st ⟨rfl,g,L,hI,hL,hlL⟩
  have nL:(L.length:Int)<1000000:=by omega
  by_cases d0:((((k).fdiv (2 ^ min 12 i64.bits))).tmod 16)=0
  ·have Zg:∀z∈L++[(1:Int)],Rg z:=fun z hz=>(mem_append.1 hz).elim (hL z) fun e=>by rw[mem_singleton] at e;rw[e];exact⟨by omega,by omega⟩
   simp only[Z8,seval,hI,bt d0,xK _ _ _ _ nL];exact⟨_,by apply eG;rfl;all_goals simp only[aJ,Z8,seval,hI,bP,tZ,bM,vA,jE]<;>rfl,⟨c2,_⟩,L++[1],rfl,rfl,by rw[length_append,length_cons,length_nil];omega,Zg,rc2⟩
  by_cases d1:((((k).fdiv (2 ^ min 12 i64.bits))).tmod 16)=1
  ·have z0:(0:Int)<=0:=by omega
   have z1:(0:Int)<(L.length:Int):=by omega
   have z2:0<L.length:=by omega
   have z3:1<=L.length:=z2
   have Zg:∀z∈L.set 0 4611686018427387904,Rg z:=fun z hz=>(mem_or_eq_of_mem_set hz).elim (hL z) fun e=>by rw[e];exact⟨by omega,by omega⟩
   have tG:dP (bF L) 0 [.v (.int .u64 4611686018427387904)] 1=bF (L.set 0 4611686018427387904):=by
    cases L with
    | nil=>simp at z2
    | cons a L=>simp[dP,bF,lV]
   simp only[Z8,seval,hI,bf d0,bt d1,z0,z1,z3,tG,Int.toNat_zero,Nat.zero_mul];exact⟨_,by apply eG;rfl;all_goals simp only[aJ,Z8,seval,hI,bP,tZ,bM,vA,jE]<;>rfl,⟨c2,_⟩,L.set 0 4611686018427387904,rfl,by simp only[ov,length_set],by rw[length_set];omega,Zg,rc2⟩
  simp only[Z8,seval,hI,bf d0,bf d1];exact⟨_,by apply eG;rfl;all_goals simp only[aJ,Z8,seval,hI,bP,tZ,bM,vA,jE]<;>rfl,⟨c2,_⟩,L,rfl,rfl,by omega,hL,rc2⟩
end Go.Ab.Tryz
