/-
  Part 8 of the proof: an evaluator of programs, its soundness, and what functions of this program compute.
-/
import Derived.Test.YthkgnakbkaafgaaGreatK7
import Derived.Test.YthkgnakbkaafgaaGreatK5
set_option linter.all false
set_option maxRecDepth 20000
set_option maxHeartbeats 40000000
open Go.IntKind (i64)
open List Go.Proofs.Tryz
noncomputable section
section
namespace Go.Ab
open Classical
instance:Inhabited Node:=⟨tw⟩
variable {ns:List Node} {i:Int} {l:List Int} {x y:AV} {k:IntKind} {call:Nat->List AV->Option AV} {ops:Array Oper} {st:St} {d:Option Nat} {T:Nat} {pos:String} {aft:Array Edge}
def nd (ns:List Node) (i:Int):Node:=ns.getD i.toNat tw
def it (l:List Int) (i:Int):Int:=l.getD i.toNat 0
def Pv (h0:0<=i) (h1:i<ns.length):∃h:i.toNat<ns.length,nd ns i=ns[i.toNat]:=by
 have h:i.toNat<ns.length:=WF
 exact⟨h,by simp[nd,h]⟩
def zD (h0:0<=i) (h1:i<l.length):∃h:i.toNat<l.length,it l i=l[i.toNat]:=by
 have h:i.toNat<l.length:=WF
 exact⟨h,by simp[it,h]⟩
def Ky (l:List Int):aH l=l.map fun x=>aa x:=by
 induction l with
 | nil=>rfl
 | cons a l S=>simp only[aH,flatMap_cons,map_cons,oF] at *;rw[S];rfl
theorem JO (l:List Int):bD l=l.map fun x=>ac x:=by
 induction l with
 | nil=>rfl
 | cons a l S=>simp only[bD,flatMap_cons,map_cons,qY] at *;rw[S];rfl
def JQ (a b:List Node):bS (a++b)=bS a++bS b:=by simp[bS]
theorem aCN (l:List Int):∀c∈aH l,cZ c:=by rw[Ky];intro c G;obtain⟨x,_,rfl⟩:=mem_map.1 G;exact .v _
def aEb (h0:0<=i) (J:i<l.length):(aH l)[i.toNat]? = some (aa (it l i)):=by
 obtain⟨h,e⟩:=zD h0 J
 rw[Ky,getElem?_map,getElem?_eq_getElem h,e];rfl
def Fq (h0:0<=i) (J:i<l.length):(bD l)[i.toNat]? = some (ac (it l i)):=by
 obtain⟨h,e⟩:=zD h0 J
 rw[JO,getElem?_map,getElem?_eq_getElem h,e];rfl
def aAH (h0:0<=i) (J:i<ns.length):((bS ns).drop (i.toNat * 240)).take 240=gC (nd ns i):=by
 obtain⟨h,e⟩:=Pv h0 J
 rw[e,<- aD2 ns i.toNat h];rfl
def WU:((1:Nat)=0)=False:=qe
def WV:((0:Nat)=1)=False:=qe
def bZ (h:Flat x):∀y∈[x],Flat y:=dr
def aU (h:Flat x) (G:Flat y):∀z∈[x,y],Flat z:=by simp[h,G]
def jC {u:AV} (h:Flat x) (G:Flat y) (h2:Flat u):∀z∈[x,y,u],Flat z:=by simp[h,G,h2]
def aNH {u v:AV} (h:Flat x) (G:Flat y) (h2:Flat u) (S:Flat v):∀z∈[x,y,u,v],Flat z:=by simp[h,G,h2,S]
theorem gZ (t:Tree):Flat (ak t):=.agg _ (aAj t)
theorem lF (t:Block):Flat (ah t):=.agg _ (yR t)
def oE (t:bU):Flat (.agg (aW t)):=.agg _ (dR t)
def Pp (l:List Int):Flat (.sl l.length (aH l)):=.sl _ _ (eP l)
def aL6 (st:St) (n:Nat) (cs:List AV):bA st (.sl n cs)=some (n,cs):=rfl
def aIu (st:St):bA st af=some (0,[]):=rfl
def aRT (x:Int):oF x=[aa x]:=rfl
def aRU (x:Int):qY x=[ac x]:=rfl
def aL7 (x:Bool):rZ x=[ae x]:=rfl
namespace Tryz
open Go.Proofs
def aYR (st:St) {ns:List Node} {k:IntKind} {i:Int} (h0:0<=i) (J:i<ns.length):bK prog st 47 (.sl ns.length (bS ns)) (.v (.int k i))=some (.ip (gC (nd ns i)) 0):=by
 have W:i.toNat<ns.length:=WF
 have:i.toNat * 240+240<=ns.length * 240:=by rw[<- Nat.succ_mul];exact Nat.mul_le_mul_right _ W
 simp only[bK,aRS,LH,h0,J,Qw,this,and_self,if_true,aAH h0 J]
theorem aMY (st:St) {l:List Int} {k:IntKind} {i:Int} (h0:0<=i) (J:i<l.length):bK prog st 22 (.sl l.length (aH l)) (.v (.int k i))=some (.ip (oF (it l i)) 0):=by
 obtain⟨h,e⟩:=zD h0 J
 have:i.toNat * 1+1<=l.length * 1:=WF
 have X:=aH8 l i.toNat h
 simp only[bK,ua,Ny,h0,J,Bb,this,and_self,if_true,e,<- X];rfl
def Ti (g:Nat) (args:Array Operand) (A:Array Nat) (h:(AR g || GA g (d.getD 0) || rN g)=false) :
 cU prog call ops ⟨d,.call ⟨.value (.func g),args,A⟩,T,pos,aft,none⟩ st=cT (aO call g (args.toList.map st.ev) st d) fun e=>some (e.apply st):=by
 simp only[Bool.or_eq_false_iff] at h;exact aBT g args A (CQ h.1.1) (I4 h.1.2) (aCe h.2)
def aEc (g:Nat) (args:Array Operand) (A:Array Nat) (h:AR g=true) :
 cU prog call ops ⟨d,.call ⟨.value (.func g),args,A⟩,T,pos,aft,none⟩ st=cT (kU call g (args.toList.map st.ev) st d) fun e=>some (e.apply st):=aHW g args A (aCd h)
def aEd (g:Nat) (args:Array Operand) (A:Array Nat) (h:rN g=true) (J:AR g=false) (h2:GA g (d.getD 0)=false) :
 cU prog call ops ⟨d,.call ⟨.value (.func g),args,A⟩,T,pos,aft,none⟩ st=cT (aO (Oo (Ro g (d.getD 0)) call) g (args.toList.map st.ev) st d) fun e=>some (e.apply st):=by
 rw[GO g args A (CQ J) (I4 h2),aCf h];rfl
def aIv (g:Nat) (args:Array Operand) (A:Array Nat) (h:GA g (d.getD 0)=true) (J:(AR g || rN g)=false) :
 cU prog call ops ⟨d,.call ⟨.value (.func g),args,A⟩,T,pos,aft,none⟩ st=cT (eH call g (args.toList.map st.ev) st d) fun e=>some (e.apply st):=by
 simp only[Bool.or_eq_false_iff] at J;rw[IA g args A (CQ J.1) (I5 h),aCe J.2];rfl
def aEe (g:Nat) (args:Array Operand) (A:Array Nat) (h:GA g (d.getD 0)=true) (J:AR g=false) (h2:rN g=true) :
 cU prog call ops ⟨d,.call ⟨.value (.func g),args,A⟩,T,pos,aft,none⟩ st=cT (eH (Oo (Ro g (d.getD 0)) call) g (args.toList.map st.ev) st d) fun e=>some (e.apply st):=by
 rw[IA g args A (CQ J) (I5 h),aCf h2];rfl
def aIw {S d:Nat} (h:pC S d=true):Ext.va S d=false:=aCb (by
 simp only[pC,To,Bool.or_eq_true,Bool.and_eq_true,beq_iff_eq] at h ⊢;rcases h with ⟨rfl,rfl|rfl⟩|⟨rfl,rfl|rfl⟩<;>rfl)
def CH (s x:Operand) (S d:Nat) (h:(To S d || pC S d)=false):cU prog call ops ⟨some d,.call ⟨.builtin .append,#[s,x],#[S,S]⟩,T,pos,aft,none⟩ st=cT (dS prog st S (st.ev s) (st.ev x)) fun X =>
 some (((match X.1 with|some p=>st.gV p.1 p.2 none|none=>st).new d X.2).put (some d) (.own d (st.aJ d))):=by
 simp only[Bool.or_eq_false_iff] at h;exact FZ s x S d (aCb h.1) (aLT h.2)
def Hm (s x:Operand) (S d:Nat) (h:pC S d=true) (M:¬(st.ev s=af/\(bA st (st.ev x)).map Prod.fst=some 0)):cU prog call ops ⟨some d,.call ⟨.builtin .append,#[s,x],#[S,S]⟩,T,pos,aft,none⟩ st=cT (dS prog st S (st.ev s) (st.ev x)) fun X =>
 some (((match X.1 with|some p=>st.gV p.1 p.2 none|none=>st).new d X.2).put (some d) (.own d (st.aJ d))):=aHY s x S d (aIw h) (aCc h) M
def Hl (s x:Operand) (S d:Nat) (h:pC S d=true) (hi:(dD prog S).isSome=true) (J:st.ev s=af) (h2:(bA st (st.ev x)).map Prod.fst=some 0):cU prog call ops ⟨some d,.call ⟨.builtin .append,#[s,x],#[S,S]⟩,T,pos,aft,none⟩ st=some (st.put (some d) af):=aHZ s x S d (aIw h) (aCc h) hi J h2
end Tryz
end Go.Ab
end
section
namespace Go.Ab
open Classical
variable {g z:Nat} {xs cs:List AV} {fl:Bool} {d:Option Nat} {b:Int} {α:Type} {x y:AV}
def oK (call:Nat->List AV->Option AV) (g:Nat) (xs:Option (List AV)) (fl:Bool) (st:St) (d:Option Nat):Option rI :=
 cT xs fun xs=>cT (call g xs) fun r=>if fl=true\/CU r then jH r st d else none
theorem xC {st:St}:∀(args:List AV),(∀x∈args,Flat x)->bM (args.map (eE st))=some args
 | [],_=>rfl
 | x :: xs,h=>by
   simp only[map_cons,cV (h x qe),bM,xC xs fun y Y=>h y (by simp[Y]),Option.map_some]
theorem dZ (call:Nat->List AV->Option AV) (g:Nat) (args:List AV) (st:St) (d:Option Nat):aO call g args st d=oK call g (bM (args.map (eE st))) (decide (∀x∈args,Flat x)) st d:=by
 unfold aO oK;by_cases h:∀x∈args,Flat x
 ·grind [xC,cC]
 ·rw[if_neg h];cases bM (args.map (eE st)) with
  | none=>rfl
  | some xs =>
    grind [cC]
def RA {call:Nat->List AV->Option AV} {r:AV} {st:St} (h:call g xs=some r) (hr:CU r) (hf:Flat r):oK call g (some xs) fl st d=some { dst:=d,val:=r }:=by
 simp_all [oK,cC,jH]
def Ee {call:Nat->List AV->Option AV} {b:Bool} {st:St} (h:call g xs=some (ae b)):oK call g (some xs) fl st d=some { dst:=d,val:=ae b}:=RA h (.v _) (.v _)
theorem zP {call:Nat->List AV->Option AV} {k:IntKind} {st:St} (h:call g xs=some (.v (.int k b))):oK call g (some xs) fl st d=some { dst:=d,val:=.v (.int k b)}:=RA h (.v _) (.v _)
def Wj {call:Nat->List AV->Option AV} {e sz n:Nat} {st:St} {d:Nat} (h:call g xs=some (.uniq e sz n cs)) (X:∀c∈cs,cZ c):oK call g (some xs) fl st (some d)=some { dst:=some d,val:=.own d (st.aJ d),new:=some (d,[.row e sz n cs])}:=by
 have A:CU (.uniq e sz n cs):=X
 have C:¬Flat (.uniq e sz n cs):=ym
 unfold oK;simp only[cC,h,A,or_true,if_true,jH,if_neg C];rfl
def lG (o:Option mH):Option AV :=
 match o with
 | some (.row _ _ n cs)=>if ∀c∈cs,Flat c then some (.sl n cs) else none
 | _=>none
def oB (st:St) (s g:Nat):eE st (.own s g)=lG (st.heap s g):=by
 grind [eE,cO,lG,qG]
def aEf (e sz n:Nat) (l:List Int):lG (some (.row e sz n (aH l)))=some (.sl n (aH l)):=by
 grind [lG,eP]
def aEg (e sz n:Nat) (l:List Int):lG (some (.row e sz n (bD l)))=some (.sl n (bD l)):=by
 grind [lG,fB]
def aAI (e sz n:Nat) (l:List Node):lG (some (.row e sz n (bS l)))=some (.sl n (bS l)):=by
 grind [lG,iG]
def K9 (e sz:Nat) (x:Node):lG (some (.row e sz 1 (gC x)))=some (.sl [x].length (bS [x])):=by
 grind [lG,Qt,bS]
def xA (st:St) (x:Value):eE st (.v x)=some (.v x):=cV (.v x)
def vB (st:St) (t:Tree):eE st (ak t)=some (ak t):=cV (gZ t)
def Az (st:St) (t:bU):eE st (.agg (aW t))=some (.agg (aW t)):=cV (oE t)
def Qb (st:St) (t:Block):eE st (ah t)=some (ah t):=cV (lF t)
def aIx (st:St) (n:Nat) (l:List Int):eE st (.sl n (aH l))=some (.sl n (aH l)):=cV (.sl _ _ (eP l))
def aIy (st:St) (n:Nat) (l:List Int):eE st (.sl n (bD l))=some (.sl n (bD l)):=cV (.sl _ _ (fB l))
def aL8 (st:St):eE st (.agg [af])=some (.agg [af]):=cV (.agg _ (by simp;exact .v _))
theorem dB:bM ([]:List (Option α))=some []:=rfl
theorem aM (x:α) (r:List (Option α)):bM (some x :: r)=(bM r).map (x :: ·):=rfl
def aL9 (x:Int):My 3 1 8 (some (1,[aa x]))=some (none,.row 3 1 [x].length (aH [x])):=by
 simp[My,maxLen];rfl
def aMa (l:List Int) (x:Int) (s g:Nat) (h:bg l.length):Mz 3 1 8 (some (.row 3 1 l.length (aH l))) s g (some (1,[aa x]))=some (some (s,g),.row 3 1 (l++[x]).length (aH (l++[x]))):=by
 grind [Mz,maxLen,aH,oF]
def aIz (x:Node):My 84 240 352 (some (1,gC x))=some (none,.row 84 240 [x].length (bS [x])):=by
 simp[My,maxLen,bS]
def aIA (l:List Node) (x:Node) (s g:Nat) (h:bg l.length):Mz 84 240 352 (some (.row 84 240 l.length (bS l))) s g (some (1,gC x))=some (some (s,g),.row 84 240 (l++[x]).length (bS (l++[x]))):=by
 simp only[Mz];rw[if_pos ⟨qe,qe,qe,WF,xm⟩,JQ]
 simp[bS]
def aIB (l:List Node) (h:bg l.length):My 84 240 352 (some (l.length,bS l))=some (none,.row 84 240 l.length (bS l)):=by
 simp only[My];rw[if_pos (by refine⟨qe, ?_, ?_⟩<;>(try simp only[maxLen])<;>omega)]
def aIC (l:List Node) (h:bg l.length):dj 84 240 352 0 [] (some (l.length,bS l))=some (none,.row 84 240 l.length (bS l)):=by
 simp only[dj];rw[if_pos ⟨qe,qe,qe,WF,xm⟩]
 simp
def aID (l:List Node) (x:Node) (h:bg l.length):dj 84 240 352 l.length (bS l) (some (1,gC x))=some (none,.row 84 240 (l++[x]).length (bS (l++[x]))):=by
 simp only[dj];rw[if_pos (by refine⟨qe,qe,.inr WF, ?_, ?_⟩<;>(try simp only[maxLen])<;>omega),JQ]
 simp[bS]
def onI (x:AV) (k:Int->Option α):Option α :=
 match x with
 | .v (.int .i64 v)=>k v
 | _=>none
def aN3 (z:Nat) (x:AV) (k:List AV->Option α):Option α :=
 match x with
 | .agg cs=>if cs.length=z then k cs else none
 | _=>none
@[congr] theorem aS6 {k:Int->Option α} (h:x=y):onI x k=onI y k:=yi
@[congr] theorem aN4 {k:List AV->Option α} (h:x=y):aN3 z x k=aN3 z y k:=yi
def NT (x:AV) (k:Int->Option α) (R:Option α):Option α :=
 match x with
 | .v (.int .i64 v)=>k v
 | _=>R
def L1 (z:Nat) (x:AV) (k:List AV->Option α) (R:Option α):Option α :=
 match x with
 | .agg cs=>if cs.length=z then k cs else R
 | _=>R
def L3 (x:AV) (k:Nat->List AV->Option α) (R:Option α):Option α :=
 match x with
 | .rL g cs=>k g cs
 | _=>R
def aMb (v:Int) (k:Int->Option α) (R:Option α):NT (aa v) k R=k v:=rfl
def aEh (z:Nat) (cs:List AV) (k:List AV->Option α) (R:Option α) (h:cs.length=z):L1 z (.agg cs) k R=k cs:=if_pos h
def aEi (g:Nat) (cs:List AV) (k:Nat->List AV->Option α) (R:Option α):L3 (.rL g cs) k R=k g cs:=rfl
@[congr] theorem aS7 {k:Int->Option α} {R:Option α} (h:x=y):NT x k R=NT y k R:=yi
@[congr] theorem aN5 {k:List AV->Option α} {R:Option α} (h:x=y):L1 z x k R=L1 z y k R:=yi
@[congr] theorem aN6 {k:Nat->List AV->Option α} {R:Option α} (h:x=y):L3 x k R=L3 y k R:=yi
namespace Tryz
open Go.Proofs
def aEj (st:St) (x:AV):dS prog st 22 af x=My 3 1 8 (bA st x):=uF Ny x
def aEk (st:St) (s g:Nat) (x:AV):dS prog st 22 (.own s g) x=Mz 3 1 8 (st.heap s g) s g (bA st x):=rG Ny s g x
def aEl (st:St) (x:AV):dS prog st 47 af x=My 84 240 352 (bA st x):=uF LH x
def aEm (st:St) (s g:Nat) (x:AV):dS prog st 47 (.own s g) x=Mz 84 240 352 (st.heap s g) s g (bA st x):=rG LH s g x
def aIE (st:St) (n:Nat) (cs:List AV) (x:AV):dS prog st 47 (.cl n cs) x=dj 84 240 352 n cs (bA st x):=aQn LH n cs x
def aEn (st:St) (s g:Nat) (k:IntKind) (i:Int):bK prog st 22 (.own s g) (.v (.int k i))=Vs 3 1 (st.heap s g) s g i:=by
 grind [bK,ua,Ny,Vs]
def aEo (st:St) (s g:Nat) (k:IntKind) (i:Int):bK prog st 47 (.own s g) (.v (.int k i))=Vs 84 240 (st.heap s g) s g i:=by
 grind [bK,aRS,LH,Vs]
def aMc (l:List Int) (s g:Nat) (i:Int) (h0:0<=i) (J:i<l.length):Vs 3 1 (some (.row 3 1 l.length (aH l))) s g i=some (.ptr s g i.toNat):=by
 simp[Vs,h0,J]
def aIF (l:List Node) (s g:Nat) (i:Int) (h0:0<=i) (J:i<l.length):Vs 84 240 (some (.row 84 240 l.length (bS l))) s g i=some (.ptr s g (i.toNat * 240)):=by
 simp[Vs,h0,J]
def L4 (st:St) (s g:Nat):eE st (.agg [.own s g])=(lG (st.heap s g)).map fun y=>.agg [y]:=by
 have hn:¬Flat (.agg [.own s g]):=by intro h;cases h<;>grind [qG]
 unfold eE lG;grind [cO,qG,bM]
def aRV (x:AV):rd [x] 0 1=[x]:=rfl
def aRW (x y:AV):dE [x] 0 [y] 1=[y]:=rfl
def aIG (x:AV) (t:Tree):dE [x] 0 (bN t) 1=bN t:=rfl
def aIH (x:AV) (t:Tree):dE (bN t) 0 [x] 1=[x]:=rfl
def qH {l:List Int} {i:Int} (h0:0<=i) (J:i<l.length):(aH l)[i.toNat]? = some (aa (it l i)):=aEb h0 J
def vow (o:Option mH):Option (Nat × List AV) :=
 match o with
 | some (.row _ _ n cs)=>some (n,cs)
 | _=>none
def aMd (e sz n:Nat) (cs:List AV):vow (some (.row e sz n cs))=some (n,cs):=rfl
def aEp (st:St) (s g:Nat):bA st (.own s g)=vow (st.heap s g):=by
 grind [bA,vow]
section
variable {call:Nat->List AV->Option AV} {ops:Array Oper} {st:St} {T:Nat} {pos:String} {aft:Array Edge}
theorem aMe (d:Nat) (x:Operand) {v:Int} (h:st.ev x=aa v):cU prog call ops ⟨some d,.buildSlice 22 1 #[(0,x)],T,pos,aft,none⟩ st=some ((st.new d (.row 3 1 1 [aa v])).put (some d) (.own d (st.aJ d))):=by
 grind [gF,KH,Ny,cd,cT,AV.lL,Value.oneCell',mP,AV.cells]
theorem aMf (d:Nat) (x:Operand) (h:st.ev x=.agg cs) (W:cs.length=240):cU prog call ops ⟨some d,.buildSlice 47 1 #[(0,x)],T,pos,aft,none⟩ st=some ((st.new d (.row 84 240 1 cs)).put (some d) (.own d (st.aJ d))):=by
 rw[gF 47 _ _ _ KH];have hz:(F9.map AV.v).length=240:=by rw[VI];simp
 simp only[LH,aQQ,cT,toList_toArray,all_cons,all_nil,h,AV.lL,Bool.and_self,map_cons,map_nil,mP,AV.cells,W,Nat.zero_mul,Nat.zero_add,true_and,take_zero,nil_append];grind
theorem aII (d:Nat) (x:Operand):cU prog call ops ⟨some d,.buildSlice 22 1 #[(0,x)],T,pos,aft,none⟩ st =
 NT (st.ev x) (fun v=>some ((st.new d (.row 3 1 1 [aa v])).put (some d) (.own d (st.aJ d)))) (cU prog call ops ⟨some d,.buildSlice 22 1 #[(0,x)],T,pos,aft,none⟩ st):=by
 unfold NT;grind [aMe]
theorem aEq (d:Nat) (x y z:Operand) {a c:Int} (h1:st.ev x=aa a) (h2:st.ev y=aa b) (h3:st.ev z=aa c):cU prog call ops ⟨some d,.buildSlice 22 3 #[(0,x),(1,y),(2,z)],T,pos,aft,none⟩ st =
 some ((st.new d (.row 3 1 [a,b,c].length (aH [a,b,c]))).put (some d) (.own d (st.aJ d))):=by
 simp_all [gF,KH,Ny,cd,cT,AV.lL,Value.oneCell',mP,AV.cells,List.range,List.range.loop,aH,oF]
theorem aAJ (d:Nat) (x y z:Operand):cU prog call ops ⟨some d,.buildSlice 22 3 #[(0,x),(1,y),(2,z)],T,pos,aft,none⟩ st =
 NT (st.ev x) (fun a=>NT (st.ev y) (fun b=>NT (st.ev z) (fun c=>some ((st.new d (.row 3 1 [a,b,c].length (aH [a,b,c]))).put (some d) (.own d (st.aJ d)))) (cU prog call ops ⟨some d,.buildSlice 22 3 #[(0,x),(1,y),(2,z)],T,pos,aft,none⟩ st))
  (cU prog call ops ⟨some d,.buildSlice 22 3 #[(0,x),(1,y),(2,z)],T,pos,aft,none⟩ st)) (cU prog call ops ⟨some d,.buildSlice 22 3 #[(0,x),(1,y),(2,z)],T,pos,aft,none⟩ st):=by
 unfold NT;grind [aEq]
theorem aIJ (d:Nat) (x:Operand):cU prog call ops ⟨some d,.buildSlice 47 1 #[(0,x)],T,pos,aft,none⟩ st =
 L1 240 (st.ev x) (fun cs=>some ((st.new d (.row 84 240 1 cs)).put (some d) (.own d (st.aJ d)))) (cU prog call ops ⟨some d,.buildSlice 47 1 #[(0,x)],T,pos,aft,none⟩ st):=by
 unfold L1;grind [aMf]
theorem NU (S d:Nat) (l c:Operand) (A:tx S d=false):cU prog call ops ⟨some d,.makeSlice S l c,T,pos,aft,none⟩ st =
 NT (st.ev l) (fun n=>NT (st.ev c) (fun m=>if 0<=n/\n=m then (cT (dD prog S) fun t=>cT (eC prog t.1) fun z =>
  if n * t.2.2<=140737488355328/\n<=maxLen then some ((st.new d (.row t.1 t.2.1 n.toNat ((List.range n.toNat).flatMap fun _=>z.map .v))).put (some d) (.own d (st.aJ d))) else none)
  else cU prog call ops ⟨some d,.makeSlice S l c,T,pos,aft,none⟩ st) (cU prog call ops ⟨some d,.makeSlice S l c,T,pos,aft,none⟩ st)) (cU prog call ops ⟨some d,.makeSlice S l c,T,pos,aft,none⟩ st):=by
 unfold NT;split
 ·rename_i n W;split
  ·rename_i m G;dsimp only
   split
   ·rename_i C;obtain⟨h0,rfl⟩:=C
    have M:n=(n.toNat:Int):=WF
    rw[US S d l c A (n:=n.toNat) (by rw[W,<- M]) (by rw[G,<- M]),<- M]
   ·rfl
  ·rfl
 ·rfl
theorem aEr (t:Nat) (args:Array Operand) (A:Array Nat) (d:Option Nat):cU prog call ops ⟨d,.call ⟨.value (.tmp t),args,A⟩,T,pos,aft,none⟩ st =
 L3 (st.env t) (fun g G=>cT (aO call g (args.toList.map st.ev++G) st d) fun e=>some (e.apply st)) (cU prog call ops ⟨d,.call ⟨.value (.tmp t),args,A⟩,T,pos,aft,none⟩ st):=by
 unfold L3;grind [aHX]
end
end Tryz
end Go.Ab
end
namespace Go.Ab
open Classical
def aMg (b:Bool):ca .not (ae b)=some (ae (!b)):=rfl
def aMh (k:IntKind) (n:Int):ca .neg (.v (.int k n))=some (.v (.int k (k.wrap (0-n)))):=rfl
def aMi (k:IntKind) (n:Int):ca .xor (.v (.int k n))=some (.v (.int k (k.wrap (BitVec.ofInt k.bits (if k.signed then -1 else k.max) ^^^ BitVec.ofInt k.bits n).toNat))):=rfl
def aIK (a b:Option IntKind) (n:Int):Option AV :=
 match a,b with
 | some k,some _=>some (.v (.int k (k.wrap n)))
 | _,_=>none
def aAK (k A:IntKind) (n:Int):aIK (some k) (some A) n=some (.v (.int k (k.wrap n))):=rfl
def aEs (P:Program) (s d:Nat) (k:IntKind) (n:Int):E0 P s d (.v (.int k n))=aIK (intKind P d) (intKind P s) n:=by
 simp only[E0,aIK];cases intKind P d with
 | none=>rfl
 | some a=>cases intKind P s<;>rfl
def aMj (s g o k:Nat):wT (.ptr s g o) k=some (.ptr s g (o+k)):=rfl
def aRX (cs:List AV) (o k:Nat):wT (.ip cs o) k=if o+k<=cs.length then some (.ip cs (o+k)) else none:=rfl
def pB (P:Program) (T:Nat) (e:Option mH) (o:Nat):Option AV :=
 match e with
 | some (.cells cs)=>gI P T cs o
 | some (.row _ _ _ cs)=>gI P T cs o
 | _=>none
def L5 (P:Program) (T o:Nat) (cs:List AV):pB P T (some (.cells cs)) o=gI P T cs o:=rfl
def aEt (P:Program) (T o e sz n:Nat) (cs:List AV):pB P T (some (.row e sz n cs)) o=gI P T cs o:=rfl
def aMk (P:Program) (st:St) (T o:Nat) (cs:List AV):Fp P st T (.ip cs o)=gI P T cs o:=rfl
def aIL (P:Program) (st:St) (T s g o:Nat):Fp P st T (.ptr s g o)=pB P T (st.heap s g) o:=by
 simp only[Fp,pB];cases st.heap s g with
 | none=>rfl
 | some e=>cases e<;>rfl
def aRY (x:Value):(AV.v x).lL=x.oneCell':=rfl
def aIM (cs:List AV):(AV.agg cs).lL=true:=rfl
def aMl (n:Nat) (cs:List AV):(AV.sl n cs).lL=true:=rfl
def aMm (n:Nat) (cs:List AV):(AV.cl n cs).lL=true:=rfl
def aMn (n:Nat) (cs:List AV):(AV.ip cs n).lL=true:=rfl
def aIN (s g o:Nat):(AV.ptr s g o).lL=true:=rfl
def aIO (s g:Nat):(AV.own s g).lL=true:=rfl
def aMo (s g:Nat):(AV.mp s g).lL=true:=rfl
def aIP (f:Nat) (cs:List AV):(AV.rL f cs).lL=true:=rfl
def aYS (x:Value):(AV.v x).cells=[.v x]:=rfl
def aMp (cs:List AV):(AV.agg cs).cells=cs:=rfl
def aRZ (n:Nat) (cs:List AV):(AV.sl n cs).cells=[.sl n cs]:=rfl
def aR0 (n:Nat) (cs:List AV):(AV.cl n cs).cells=[.cl n cs]:=rfl
def aR1 (n:Nat) (cs:List AV):(AV.ip cs n).cells=[.ip cs n]:=rfl
def aMq (s g o:Nat):(AV.ptr s g o).cells=[.ptr s g o]:=rfl
def aMr (s g:Nat):(AV.own s g).cells=[.own s g]:=rfl
def aR2 (s g:Nat):(AV.mp s g).cells=[.mp s g]:=rfl
def aMs (f:Nat) (cs:List AV):(AV.rL f cs).cells=[.rL f cs]:=rfl
def aMt (k:IntKind) (n:Int):(Value.int k n).oneCell'=true:=rfl
def aIQ (b:Bool):(Value.bool b).oneCell'=true:=rfl
def aEu (a:Option Addr) (n m:Nat):(Value.slice a n m).oneCell'=true:=rfl
def aAL (id:Nat):Ex.normal.inBlock id=.normal:=rfl
def aMu (id:Nat):Ex.ret.inBlock id=.ret:=rfl
def aIR (id i:Nat):(Ex.exit i).inBlock id=if i=id then .normal else .exit i:=rfl
def aMv (l:List Oper) (j:Nat):tv l.toArray j=(l[j]?).bind (·.dst):=by simp[tv]
def gei (a b:Int):(a>=b)=(b<=a):=rfl
def gti (a b:Int):(a > b)=(b<a):=rfl
def a8x (a b:Nat):(a>=b)=(b<=a):=rfl
def gtn (a b:Nat):(a > b)=(b<a):=rfl
end Go.Ab
namespace Go.Ab.Tryz
open Classical Go.Proofs Go.Ab
def ok7:aZ Tryz.f7=true:=WP
def a8y:aZ Tryz.f10=true:=WP
def a8z:aZ Tryz.f11=true:=WP
def a2x:aZ Tryz.f19=true:=WP
def a8A:aZ Tryz.f23=true:=WP
def a1J:aZ Tryz.f25=true:=WP
def a2Q:rP Tryz.f27=true:=WP
def a3x:aZ Tryz.f30=true:=WP
def a8B:aZ Tryz.f33=true:=WP
def a2y:aZ Tryz.f34=true:=WP
def a1N:aZ Tryz.f35=true:=WP
def a0H:aZ Tryz.f36=true:=WP
def aTt:aZ Tryz.f37=true:=WP
def a0A:aZ Tryz.f38=true:=WP
def a0P:aZ Tryz.f39=true:=WP
def a0B:aZ Tryz.f41=true:=WP
def a0G:aZ Tryz.f42=true:=WP
def a5D:aZ Tryz.f45=true:=WP
def a2m:rP Tryz.f46=true:=WP
def a2k:aZ Tryz.f47=true:=WP
def a2c:aZ Tryz.f48=true:=WP
def a2d:aZ Tryz.f49=true:=WP
def a2l:rP Tryz.f50=true:=WP
def a1x:aZ Tryz.f54=true:=WP
def a1A:aZ Tryz.f55=true:=WP
def a1I:aZ Tryz.f56=true:=WP
def a2N:aZ Tryz.f58=true:=WP
def aVs:aZ Tryz.f59=true:=WP
def a2M:aZ Tryz.f60=true:=WP
def a30:aZ Tryz.f61=true:=WP
def a33:aZ Tryz.f62=true:=WP
def a3r:aZ Tryz.f63=true:=WP
def a3h:aZ Tryz.f65=true:=WP
def a5w:aZ Tryz.f68=true:=WP
def a4o:aZ Tryz.f69=true:=WP
def a3W:rP Tryz.f70=true:=WP
def aWG:aZ Tryz.f71=true:=WP
def a3U:aZ Tryz.f72=true:=WP
def a4h:aZ Tryz.f73=true:=WP
def a5e:rP Tryz.f74=true:=WP
def a5f:rP Tryz.f75=true:=WP
def a8C:aZ Tryz.f77=true:=WP
def a8D:aZ Tryz.f78=true:=WP
def a8E:aZ Tryz.f79=true:=WP
def a01:aZ Tryz.f80=true:=WP
def aTr:aZ Tryz.f81=true:=WP
def a0J:aZ Tryz.f82=true:=WP
def a0O:aZ Tryz.f83=true:=WP
def a0C:aZ Tryz.f84=true:=WP
def a0F:aZ Tryz.f85=true:=WP
def a2a:aZ Tryz.f86=true:=WP
def a2b:aZ Tryz.f87=true:=WP
def a16:aZ Tryz.f88=true:=WP
def aYT:aZ Tryz.f89=true:=WP
def a1Q:aZ Tryz.f90=true:=WP
def a1P:aZ Tryz.f92=true:=WP
def a1R:aZ Tryz.f95=true:=WP
def a1k:aZ Tryz.f96=true:=WP
def a1n:aZ Tryz.f97=true:=WP
def a1s:aZ Tryz.f98=true:=WP
def a1t:aZ Tryz.f99=true:=WP
def aUb:aZ Tryz.f100=true:=WP
def aM9:aZ Tryz.f101=true:=WP
def aYU:aZ Tryz.f102=true:=WP
def aYV:aZ Tryz.f105=true:=WP
def aUx:rP Tryz.f107=true:=WP
def aUY:rP Tryz.f108=true:=WP
def aVx:aZ Tryz.f109=true:=WP
def aWy:aZ Tryz.f110=true:=WP
def aYW:aZ Tryz.f111=true:=WP
def aNA:aZ Tryz.f112=true:=WP
def aVO:aZ Tryz.f113=true:=WP
def aV2:aZ Tryz.f114=true:=WP
def aVZ:aZ Tryz.f115=true:=WP
def aVU:aZ Tryz.f116=true:=WP
def aVS:aZ Tryz.f117=true:=WP
def aYX:aZ Tryz.f118=true:=WP
def aV1:aZ Tryz.f119=true:=WP
def aWS:aZ Tryz.f130=true:=WP
def aWn:aZ Tryz.f131=true:=WP
def aWu:rP Tryz.f132=true:=WP
def aWI:aZ Tryz.f133=true:=WP
def aV9:aZ Tryz.f134=true:=WP
def aWQ:aZ Tryz.f135=true:=WP
def aNv:aZ Tryz.f136=true:=WP
def aWx:aZ Tryz.f137=true:=WP
def aVL:aZ Tryz.f139=true:=WP
def aWE:aZ Tryz.f140=true:=WP
def aT3:aZ Tryz.f141=true:=WP
def aWF:aZ Tryz.f142=true:=WP
def aV7:aZ Tryz.f143=true:=WP
def aWv:aZ Tryz.f144=true:=WP
def aWY:aZ Tryz.f145=true:=WP
def aW2:aZ Tryz.f147=true:=WP
def aXi:aZ Tryz.f149=true:=WP
def aXh:aZ Tryz.f150=true:=WP
def aVW:aZ Tryz.f152=true:=WP
def aWd:rP Tryz.f153=true:=WP
def aXc:rP Tryz.f154=true:=WP
def aYY:aZ Tryz.f157=true:=WP
def aYZ:aZ Tryz.f158=true:=WP
def aY0:aZ Tryz.f159=true:=WP
def aY1:aZ Tryz.f160=true:=WP
def aUE:aZ Tryz.f161=true:=WP
def aUa:aZ Tryz.f162=true:=WP
def aY2:aZ Tryz.f163=true:=WP
def aUi:aZ Tryz.f164=true:=WP
def aWN:aZ Tryz.f165=true:=WP
def aWM:aZ Tryz.f167=true:=WP
def aY3:aZ Tryz.f168=true:=WP
def aY4:aZ Tryz.f169=true:=WP
def aUv:aZ Tryz.f172=true:=WP
def aUX:aZ Tryz.f173=true:=WP
def aUI:aZ Tryz.f174=true:=WP
def aVh:rP Tryz.f175=true:=WP
def aVl:rP Tryz.f176=true:=WP
def aU6:aZ Tryz.f177=true:=WP
def aVw:aZ Tryz.f178=true:=WP
def aU7:aZ Tryz.f179=true:=WP
def aUt:aZ Tryz.f180=true:=WP
def aUs:aZ Tryz.f181=true:=WP
def aTH:aZ Tryz.f182=true:=WP
def aNp:aZ Tryz.f183=true:=WP
def aNz:aZ Tryz.f184=true:=WP
def aVP:aZ Tryz.f185=true:=WP
def aVQ:aZ Tryz.f186=true:=WP
def aY5:aZ Tryz.f187=true:=WP
def aV0:aZ Tryz.f188=true:=WP
def aV5:aZ Tryz.f193=true:=WP
def aTS:aZ Tryz.f195=true:=WP
def aWo:rP Tryz.f196=true:=WP
def aWj:aZ Tryz.f198=true:=WP
def aY6:aZ Tryz.f199=true:=WP
def aM5:aZ Tryz.f200=true:=WP
def aWk:aZ Tryz.f202=true:=WP
def aTU:aZ Tryz.f203=true:=WP
def aY7:aZ Tryz.f204=true:=WP
def aNw:aZ Tryz.f205=true:=WP
def aVF:aZ Tryz.f206=true:=WP
def aVJ:aZ Tryz.f207=true:=WP
def aTZ:aZ Tryz.f208=true:=WP
def aWB:aZ Tryz.f209=true:=WP
def aWC:aZ Tryz.f210=true:=WP
def aWV:aZ Tryz.f211=true:=WP
def aW1:aZ Tryz.f213=true:=WP
def aW0:aZ Tryz.f214=true:=WP
def aXg:aZ Tryz.f217=true:=WP
def aWb:aZ Tryz.f220=true:=WP
def aWa:aZ Tryz.f221=true:=WP
def aW3:aZ Tryz.f222=true:=WP
def aXa:aZ Tryz.f223=true:=WP
def aW9:aZ Tryz.f224=true:=WP
def aY8:aZ Tryz.f228=true:=WP
def aY9:aZ Tryz.f229=true:=WP
def aN7:aZ Tryz.f230=true:=WP
def aT4:aZ Tryz.f231=true:=WP
def aZa:aZ Tryz.f232=true:=WP
def aTj:aZ Tryz.f233=true:=WP
def aUg:aZ Tryz.f234=true:=WP
def aWg:aZ Tryz.f235=true:=WP
def aWO:aZ Tryz.f240=true:=WP
def aWL:aZ Tryz.f241=true:=WP
def aWK:aZ Tryz.f242=true:=WP
def aT6:aZ Tryz.f244=true:=WP
def aUR:rP Tryz.f245=true:=WP
def aUT:rP Tryz.f246=true:=WP
def aUU:aZ Tryz.f247=true:=WP
def aUV:rP Tryz.f248=true:=WP
def aUW:rP Tryz.f249=true:=WP
def aNd:aZ Tryz.f250=true:=WP
def aUH:aZ Tryz.f251=true:=WP
def aTC:aZ Tryz.f252=true:=WP
def aTE:rP Tryz.f253=true:=WP
def aTw:aZ Tryz.f254=true:=WP
def aTM:aZ Tryz.f255=true:=WP
def aU0:aZ Tryz.f256=true:=WP
def aU2:aZ Tryz.f257=true:=WP
def aU4:aZ Tryz.f258=true:=WP
def aTA:aZ Tryz.f259=true:=WP
def aTO:aZ Tryz.f260=true:=WP
def aTJ:aZ Tryz.f261=true:=WP
def aUq:aZ Tryz.f262=true:=WP
def aUp:aZ Tryz.f263=true:=WP
def aUn:aZ Tryz.f264=true:=WP
def aTG:aZ Tryz.f265=true:=WP
def aVu:rP Tryz.f266=true:=WP
def aVp:aZ Tryz.f267=true:=WP
def aTf:aZ Tryz.f268=true:=WP
def aWm:aZ Tryz.f270=true:=WP
def aWl:aZ Tryz.f271=true:=WP
def aWi:aZ Tryz.f272=true:=WP
def aZb:aZ Tryz.f273=true:=WP
def aTT:aZ Tryz.f274=true:=WP
def aZc:aZ Tryz.f275=true:=WP
def aVE:aZ Tryz.f276=true:=WP
def aVD:aZ Tryz.f277=true:=WP
def aVG:aZ Tryz.f278=true:=WP
def aVI:aZ Tryz.f279=true:=WP
def aTY:aZ Tryz.f280=true:=WP
def aTW:aZ Tryz.f281=true:=WP
def aWA:aZ Tryz.f282=true:=WP
def aWz:aZ Tryz.f283=true:=WP
def aWU:aZ Tryz.f284=true:=WP
def aWZ:aZ Tryz.f287=true:=WP
def aW8:aZ Tryz.f289=true:=WP
def aW6:aZ Tryz.f290=true:=WP
def aUB:aZ Tryz.f302=true:=WP
def aUO:aZ Tryz.f303=true:=WP
def aUC:rP Tryz.f304=true:=WP
def aUP:aZ Tryz.f305=true:=WP
def aUQ:aZ Tryz.f306=true:=WP
def aNh:rP Tryz.f307=true:=WP
def aUG:aZ Tryz.f308=true:=WP
def aTD:rP Tryz.f309=true:=WP
def aTk:aZ Tryz.f310=true:=WP
def aZd:aZ Tryz.f311=true:=WP
def aTK:aZ Tryz.f312=true:=WP
def aTu:aZ Tryz.f313=true:=WP
def aTy:aZ Tryz.f314=true:=WP
def aTo:aZ Tryz.f315=true:=WP
def aZe:aZ Tryz.f316=true:=WP
def aTp:aZ Tryz.f317=true:=WP
def aT5:aZ Tryz.f318=true:=WP
def aT7:rP Tryz.f319=true:=WP
def aTF:rP Tryz.f320=true:=WP
def aU8:aZ Tryz.f321=true:=WP
def aZf:aZ Tryz.f322=true:=WP
def aTc:aZ Tryz.f323=true:=WP
def aZg:aZ Tryz.f324=true:=WP
def aW4:aZ Tryz.f336=true:=WP
def aUL:aZ Tryz.f342=true:=WP
def aTn:aZ Tryz.f343=true:=WP
def aM0:aZ Tryz.f344=true:=WP
def aZh:aZ Tryz.f345=true:=WP
end Go.Ab.Tryz
section
namespace Go.Ab.Tryz
open Classical Go.Proofs Go.Ab
variable {t T:Nat} {cs xs:List AV} {G C:ResultVar} {x1 x2 y1 Y:AV} {c:Code} {bi:Bool}
def aj {a b:Prop} (x:a) (y:b):a/\b:=⟨x,y⟩
theorem ka{a b c d:Prop}(x:a)(y:b)(z:c)(w:d):(a/\b)/\c/\d:=⟨⟨x,y⟩,z,w⟩
theorem ke{a b c d e f g h:Prop}(x:a)(y:b)(z:c)(w:d)(p:e)(q:f)(r:g)(s:h):((a/\b)/\c/\d)/\(e/\f)/\g/\h:=⟨⟨⟨x,y⟩,z,w⟩,⟨p,q⟩,r,s⟩
def EN:=ka (ke (ke @cC @Sw @lS @aHP @aDM @Z4 @aD0 @decide_true) (ke @decide_false @Int.cast_ofNat_Int @Bool.not_true @Bool.not_false @Bool.false_eq_true @Bool.true_eq_false @aLw @aLx) (ke @aLy @aLz @aLA @aLB @aLC @aLD @aLE @aLF) (ke @aLI @aBI @aLG @aLH @not_false_eq_true @ne_eq.{1} @aH7 @aDZ) (ke @aAc @aAd @Option.bind_some.{0,0} @aLm @aDN @aLn @aHQ @aLo) (ke @Z5 @UQ @UR @aLp @Z7 @aHS @aHT @aHU) (ke @aQi @aHV @Ti @Bool.or_false @Bool.false_or @Bool.false_and @Bool.or_true @aLr) (ke @CH @aDO @Bd @GF @Ht @E3 @oB @L4)) (ke (ke @aEn @aEo @aMc @aIF @qH @aEf @aEg @aAI) (ke @K9 @Option.map_some.{0,0} @xA @vB @Az @Qb @aIx @aIy) (ke @aL8 @dB @aM @aII @aIJ @NU @aEr @aMb) (ke @aEh @aEi @aLL @aH9 @aLM @aLJ @aEj @aEk) (ke @aEl @aEm @aIE @aEp @aMd @aL9 @aMa @aIz) (ke @aIA @aIB @aIC @aID @aDR @UU @aL6 @aIu) (ke @aYR @aMY @aH0 @aQk @aLs @UT @aLt @aH1) (ke @aLu @TA @Kv @GB @Fy @qV @aH2 @aH3)) (ke (ke @aDP @aH4 @Kz @aDQ @toList_toArray.{0} @map_cons.{0,0} @map_nil.{0,0} @aLl) (ke @Z3 @aDL @aHM @aHN @aLk @UW @aD1 @aAe) (ke @getElem?_cons_zero.{0} @getElem?_cons_succ.{0} @getElem?_nil.{0} @Option.getD_some.{0} @Option.getD_none.{0} @and_true @true_and @and_self) (ke @false_and @and_false @if_true.{1} @if_false.{1} @Nat.succ_ne_zero @WU @WV @Nat.add_zero) (ke @Nat.zero_add @aAJ @aHR @aQr @aQs @v7 @u9 @aEc) (ke @aAn @aIv @AR.eq_1 @GA.eq_1 @rN.eq_1 @tx.eq_1 @aEd @aEe) (ke @To.eq_1 @pC.eq_1 @o8.eq_1 @Sr.eq_1 @Bool.and_false @Bool.true_and @Bool.and_true @Bool.or_self) (ke @aMg @aMh @aMi @aAK @aEs @aMj @aRX @L5)) (ka (ke @aEt @aMk @aIL @aRY @aIM @aMl @aMm @aMn) (ke @aIN @aIO @aMo @aIP @aYS @aMp @aRZ @aR0) (ke @aR1 @aMq @aMr @aR2 @aMs @aMt @aIQ @aEu) (ke @aAL @aMu @aIR @aMv @gei @gti @a8x @gtn))
def EV:=aj EN @aDY
def LE:=aj (ke (ke @aRV @aRW @aIG @aIH @Qw @Bb @PC @GN) (ke @aRT @aRU @aL7 @tV @wL @xM @iN @sN) (ke @nX @Lo @jQ @vG @Xs @Nat.sub_zero @Nat.le_refl @yH) (ke @uY @Option.map_some.{0,0} @all_cons.{0} @all_nil.{0} @Bool.and_true @Bool.true_and @Bool.and_self @aDU) (ke @length_cons.{0} @length_nil.{0} @jO @kE @Uv @Ae @Xo @VI) (ke @Nat.zero_le @Nat.mul_one @Pu @yK @aAt @I6 @VO @Zd) (ke @J0 @xQ @Gm @GG @Ei @lY @jM @Hv) (ke @aAx @Oz @J2 @aAz @FR @Cc @A4 @FK)) (ka (ke @Zi @Eg @Np @Qx @Xv @Xw @TF @aAv) (ke @Tr @Lv @Tv @IN @Qy @IQ @Lx @QH) (ka @J3 @IT @GU @aIq) (aj @dK @aLU))
def RD:=aj (ka (ke (ke @E7 @E9 @F0 @F1 @IF @MG @UX @UY) (ke @F2 @F3 @UZ @VA @Oc @VB @VC @Od) (ke @MH @MJ @AS @Qp @Qq @Cs @En @Qr) (ke @Qs @Ct @IG @MK @ML @MM @AT @AU) (ke @Xp @Xq @MN @MO @II @IJ @MP @MQ) (ke @Lp @VE @VF @Oe @Uu @Xr @AW @VG) (ke @VH @MS @MT @Lq @Gk @xO @Gl @xP) (ke @Of @Qu @Lr @Jh @Qv @Uw @F7 @aAh)) (ke (ke @Iz @Ls @G0 @G1 @IK @G2 @G3 @IL) (ke @MW @Uz @Ig @Ji @Ya @AX @Va @Vb) (ke @IU @IV @Xu @AY @AZ @Yb @Yc @Yd) (ke @Vc @MX @Ly @Lz @Jj @Jk @Jl @Ih) (ke @IW @MY @Vd @Ye @MZ @Ve @Vf @Jt) (ke @NA @NB @NC @VR @J4 @IX @ND @VW) (ke @VX @J5 @J6 @VT @J7 @J8 @J9 @NF) (ke @NG @Ma @Og @Qz @Ra @Sb @K4 @aAB)) (ke (ke @aAC @Xx @BA @Yf @BB @NH @NJ @Ju) (ke @NK @VY @VZ @Vg @Dp @Cu @Cv @pM) (ke @Rb @Ca @Cj @Cx @Ck @Cy @Gq @oQ) (ke @BC @BD @K5 @K6 @Rc @Yg @Ow @WA) (ke @WB @WC @Vh @Vi @Ii @Yh @Yi @Vj) (ke @Yj @BE @IY @IZ @JA @BF @BG @BH) (ke @BI @JB @JC @JD @JE @Fa @BJ @Is) (ke @JF @WD @WE @Yk @BK @Fb @Bj @It)) (ke (ke @BL @BM @Cl @Cm @Ap @Aq @Mb @Oh) (ke @yF @Oi @JG @JH @vT @Jm @wS @Mc) (ke @Vk @Ij @Ik @yW @Ar @Jn @Jo @zL) (ke @Cn @vU @Jp @tL @Gr @NL @Ph @yG) (ke @Oj @NM @WG @JI @JJ @Fe @BN @WH) (ke @WI @Lc @JK @vI @uR @rR @qN @rD) (ke @vJ @wO @qO @pK @Ol @zW @mY @Cz) (ke @Om @Md @Me @vW @Bk @Vl @De @Yl))) (aj (ka (ke @Vm @Ym @JL @NN @NO @NP @Vn @Yn) (ke @BO @WJ @WK @VV @K7 @WL @WM @aAD) (ke @aAE @Ff @WN @WO @Re @tM @On @sU) (ke @WQ @WR @BP @Df @JM @JN @NQ @WS)) (ka @WT @K8 @aAF @aAG))
def FA:=aj (ka (ke (ke @ld3 @cd @a58 @AG @aO2 @ld5 @ze5 @ld4) (ke @sw @ze4 @a6e @aOm @aPK @aQx @a6f @a6g) (ke @aOe @a6h @a6i @aTl @a6l @a6m @aO0 @aOk) (ke @aQA @a6n @a6o @a6p @a6q @a6t @aT2 @pq) (ke @jo @aYj @a6u @a6v @a6w @aQQ @a6y @a6z) (ke @a6C @a6D @a6G @a6H @aYk @a6K @a6L @a6O) (ke @a6P @a6S @aYl @aFk @aGb @aYm @a6T @aYn) (ke @a6V @a6W @aWX @a6Y @a6Z @a62 @aWf @aWe)) (ke (ke @rz @a65 @aNt @ZM @ZT @aYo @a66 @tl) (ke @aYp @a68 @a69 @a7a @a7d @a7g @a7j @a7m) (ke @a7n @a7q @a7r @aYq @a7t @aRR @Ny @ua) (ke @a7u @ZS @ub @a7x @la @aXE @T8 @uc) (ke @a7C @ly @aYr @a7F @Fm @po @a7I @LH) (ke @aRS @a7L @a7O @SS @aO9 @a7P @Ho @gf) (ke @a7S @ik @aPY @a7V @QI @aIs @ud @PK) (ke @aIt @aGW @aN0 @pb @aN1 @aGI @aN2 @a74)) (ka (ke @a77 @a78 @a79 @a8a @a8b @a8c @a8d @a8e) (ke @a8f @a8g @a8h @a8i @a8j @a8k @a8l @a8m) (ke @a8n @a8o @a8p @a8q @a8r @a8s @a8t @a8u) (ke @a8v @aYF @aYG @aYH @aYI @aYJ @aYK @aYL)) (aj (ke @aYM @aYN @aYO @aGX @aYP @aYQ @FX0 @FX1) (aj @FX2 @FX3))) @FX4
def ZZ:=ka EV LE RD FA
section
variable {f:Nat} {fn:Func} {st:St} {x y z:AV}
theorem bE (X:fn.results.toList=[.tmp t]) (N:st.env t=x:=by simp only[E8,seval]<;>rfl) (W:Flat x:=by first|exact .v _|simp only[sB]) (R:Ext.oM f=false:=by exact aI ZB):wY prog f fn (.ret,st)=some x:=Bo R (.inl rfl) X N W
theorem iI (X:fn.results.toList=[.cell t T]) (Y:st.env t=y) (N:Fp prog st T y=some x) (W:Flat x) (R:Ext.oM f=false:=by exact aI ZB):wY prog f fn (.ret,st)=some x:=aDW R (.inl rfl) X Y N W
theorem oH {s g e' sz n:Nat} (X:fn.results.toList=[.tmp t]) (N:st.env t=.own s g) (u:st.heap s g=some (.row e' sz n cs)) (W:∀c∈cs,Flat c) (R:Ext.oM f=false:=by exact aI ZB):wY prog f fn (.ret,st)=some (.uniq e' sz n cs):=Ki R (.inl rfl) X N u W
theorem jE (X:fn.results.toList=[.cell t T]) (hz:st.env t=z) (N:Fp prog st T z=some (.agg cs)) (Y:eE st (.agg cs)=some y) (R:Ext.oM f=false:=by exact aI ZB):wY prog f fn (.ret,st)=some y:=aAa R (.inl rfl) X hz N Y
theorem bT (X:fn.results.toList=[G,C]) (J:bC prog st G=some x1) (h2:bC prog st C=some x2) (A:eE st x1=some y1) (M:eE st x2=some Y) (R:Ext.oM f=false:=by exact aI ZB):wY prog f fn (.ret,st)=some (.cY [y1,Y]):=Ts R (.inl rfl) X J h2 A M
theorem aUu (X:fn.results.toList=[G,C]) (J:bC prog st G=some x1) (h2:bC prog st C=some x2) (e0:eE st x1=none) (A:Rr st x1=some y1) (M:eE st x2=some Y) (R:Ext.oM f=false:=by exact aI ZB):wY prog f fn (.ret,st)=some (.cY [y1,Y]):=aDX R (.inl rfl) X J h2 e0 A M
theorem fF {r2 D:ResultVar} {x3 l:AV} (X:fn.results.toList=[G,r2,D]) (J:bC prog st G=some x1) (h2:bC prog st r2=some x2) (S:bC prog st D=some x3) (A:eE st x1=some y1) (M:eE st x2=some Y) (C:eE st x3=some l) (R:Ext.oM f=false:=by exact aI ZB):wY prog f fn (.ret,st)=some (.cY [y1,Y,l]):=GR R (.inl rfl) X J h2 S A M C
theorem cL (W:prog.funcs[f]? = some fn) (hb:fn.body=some c) (R:aZ fn=true) (hu:xs.any tF=false) (N:Q7 f=false:=by rfl):aA prog f xs=cT (wP prog c (St.init xs)) (wY prog f fn):=dJ _ W hb R xs (cF _ _ N) hu
theorem cG (W:prog.funcs[f]? = some fn) (hb:fn.body=some c) (R:rP fn=true) (G:nG c=true) (hu:xs.any tF=false) (N:Q7 f=false:=by rfl):aA prog f xs=cT (vN prog true c (St.init xs)) (wY prog f fn):=by
 rw[EA prog W hb R xs (cF _ _ N) hu,G]
abbrev KC (g:Nat) (xs:List AV) (r:AV):Prop:=∀(st:St) (d:Option Nat),aO (aA prog) g xs st d=some { dst:=d,val:=r }
end
section
variable [Ext] {b:Code} {st st':St} {n:Nat} {I:Nat->St->Prop} {Q:Ex->St->Prop}
theorem oN (m:Nat) (h:wP prog b st=some (.normal,st')) (hi:I m st') (hm:m<n:=by omega):∃e st',wP prog b st=some (e,st')/\((e=.normal/\∃m,m<n/\I m st')\/(e≠.normal/\Q e st')):=Bp h m hm hi
theorem oT (e:Ex) (h:wP prog b st=some (e,st')) (N:Q e st') (he:e≠.normal:=by simp):∃e st',wP prog b st=some (e,st')/\((e=.normal/\∃m,m<n/\I m st')\/(e≠.normal/\Q e st')):=aFR h he N
theorem Ka (m:Nat) (h:vN prog bi b st=some (.normal,st')) (hi:I m st') (hm:m<n:=by omega):∃e st',vN prog bi b st=some (e,st')/\((e=.normal/\∃m,m<n/\I m st')\/(e≠.normal/\Q e st')):=aQo h m hm hi
theorem BW (e:Ex) (h:vN prog bi b st=some (e,st')) (N:Q e st') (he:e≠.normal:=by simp):∃e st',vN prog bi b st=some (e,st')/\((e=.normal/\∃m,m<n/\I m st')\/(e≠.normal/\Q e st')):=aLN h he N
end
end Go.Ab.Tryz
end
namespace Go.Ab.Tryz
open Go.Ab
def fq:(((aP 0 3 2/\aP 1 4 14)/\(aP 2 10 17/\aP 3 1 9))/\((aP 4 4 22/\aP 5 4 25)/\(aP 6 1 10/\aP 7 1 11)))/\(((aP 8 3 29/\aP 10 5 34)/\(aP 11 2 38/\aP 12 1 12))/\((aP 13 7 40/\aP 14 5 45)/\(aP 15 8 50/\(aP 9 3 32/\(iW 16 6 (some 56)=[(2,3)]))))):=⟨⟨⟨⟨rfl,rfl⟩,⟨rfl,rfl⟩⟩,⟨⟨rfl,rfl⟩,⟨rfl,rfl⟩⟩⟩,⟨⟨⟨rfl,rfl⟩,⟨rfl,rfl⟩⟩,⟨⟨rfl,rfl⟩,⟨rfl,⟨rfl,rfl⟩⟩⟩⟩⟩
def tS:((((aP 0 2 3/\aP 1 7 12)/\(aP 2 4 18/\aP 3 14 22))/\((aP 4 8 35/\aP 5 23 41)/\(aP 6 9 62/\(aP 7 5 71/\aP 8 4 75))))/\(((aP 9 9 79/\aP 10 7 87)/\(aP 11 6 93/\(aP 12 13 97/\aP 13 4 110)))/\((aP 14 6 114/\aP 15 4 119)/\(aP 16 15 122/\((iW 17 12 (some 137)=[(7,9)])/\aP 18 11 147)))))/\((((aP 19 5 158/\(iW 20 8 (some 162)=[(3,5)]))/\(aP 21 3 168/\(aP 22 2 172/\aP 23 6 173)))/\((aP 24 2 179/\aP 25 5 180)/\(aP 26 2 185/\(aP 27 5 186/\aP 28 2 191))))/\(((aP 29 9 192/\aP 30 2 201)/\(aP 31 5 202/\(aP 32 2 207/\aP 33 16 208)))/\((aP 34 2 224/\aP 35 5 225)/\(aP 36 2 230/\(aP 37 3 231/\aP 38 2 233))))):=⟨⟨⟨⟨⟨rfl,rfl⟩,⟨rfl,rfl⟩⟩,⟨⟨rfl,rfl⟩,⟨rfl,⟨rfl,rfl⟩⟩⟩⟩,⟨⟨⟨rfl,rfl⟩,⟨rfl,⟨rfl,rfl⟩⟩⟩,⟨⟨rfl,rfl⟩,⟨rfl,⟨rfl,rfl⟩⟩⟩⟩⟩,⟨⟨⟨⟨rfl,rfl⟩,⟨rfl,⟨rfl,rfl⟩⟩⟩,⟨⟨rfl,rfl⟩,⟨rfl,⟨rfl,rfl⟩⟩⟩⟩,⟨⟨⟨rfl,rfl⟩,⟨rfl,⟨rfl,rfl⟩⟩⟩,⟨⟨rfl,rfl⟩,⟨rfl,⟨rfl,rfl⟩⟩⟩⟩⟩⟩
def rf:((aP 0 2 2/\(aP 1 13 11/\aP 2 17 22))/\((aP 3 4 37/\aP 4 8 40)/\(aP 5 10 48/\(iW 6 9 (some 56)=[(4,7)]))))/\((aP 7 6 63/\(aP 8 6 68/\aP 9 9 73))/\((aP 10 18 82/\aP 11 4 99)/\(aP 12 3 103/\aP 13 2 105))):=⟨⟨⟨rfl,⟨rfl,rfl⟩⟩,⟨⟨rfl,rfl⟩,⟨rfl,rfl⟩⟩⟩,⟨⟨rfl,⟨rfl,rfl⟩⟩,⟨⟨rfl,rfl⟩,⟨rfl,rfl⟩⟩⟩⟩
def aFK:(aP 0 3 1/\(aP 1 5 5/\aP 2 8 8))/\(aP 3 3 16/\((iW 4 5 (some 17)=[(0,2)])/\(iW 5 5 (some 20)=[(1,3)]))):=⟨⟨rfl,⟨rfl,rfl⟩⟩,⟨rfl,⟨rfl,rfl⟩⟩⟩
def Ox:(((aP 0 2 1/\aP 1 8 6)/\(aP 2 1 2/\(aP 3 7 15/\aP 4 2 19)))/\((aP 5 2 21/\(aP 6 5 22/\aP 7 2 25))/\(aP 8 2 28/\(aP 9 4 29/\aP 10 2 33))))/\(((aP 11 4 34/\(aP 12 2 38/\aP 13 4 39))/\(aP 14 2 43/\(aP 15 4 44/\aP 16 2 48)))/\((aP 17 4 49/\(aP 18 2 53/\(iW 19 8 (some 54)=[(3,5)])))/\(aP 20 4 60/\(aP 21 1 2/\aP 22 1 2)))):=⟨⟨⟨⟨rfl,rfl⟩,⟨rfl,⟨rfl,rfl⟩⟩⟩,⟨⟨rfl,⟨rfl,rfl⟩⟩,⟨rfl,⟨rfl,rfl⟩⟩⟩⟩,⟨⟨⟨rfl,⟨rfl,rfl⟩⟩,⟨rfl,⟨rfl,rfl⟩⟩⟩,⟨⟨rfl,⟨rfl,rfl⟩⟩,⟨rfl,⟨rfl,rfl⟩⟩⟩⟩⟩
def aNy:(aP 0 5 2/\(aP 1 5 9/\aP 2 2 13))/\((aP 3 5 15/\aP 4 4 17)/\(aP 5 8 19/\(iW 6 9 (some 26)=[(5,6)]))):=⟨⟨rfl,⟨rfl,rfl⟩⟩,⟨⟨rfl,rfl⟩,⟨rfl,rfl⟩⟩⟩
def Dn:(((aP 0 3 1/\aP 1 3 9)/\(aP 2 3 12/\aP 3 5 13))/\((aP 4 3 17/\aP 5 7 19)/\(aP 6 4 26/\(aP 7 7 28/\aP 8 4 34))))/\(((aP 9 3 37/\aP 10 1 6)/\(aP 11 4 39/\(aP 13 8 45/\aP 14 12 53)))/\((aP 15 11 65/\aP 16 2 73)/\(aP 17 7 75/\(aP 12 3 43/\aP 18 3 81)))):=⟨⟨⟨⟨rfl,rfl⟩,⟨rfl,rfl⟩⟩,⟨⟨rfl,rfl⟩,⟨rfl,⟨rfl,rfl⟩⟩⟩⟩,⟨⟨⟨rfl,rfl⟩,⟨rfl,⟨rfl,rfl⟩⟩⟩,⟨⟨rfl,rfl⟩,⟨rfl,⟨rfl,rfl⟩⟩⟩⟩⟩
def Oy:((aP 0 2 1/\aP 1 3 5)/\(aP 2 2 7/\(aP 3 1 4/\aP 4 4 8)))/\((aP 6 9 14/\(aP 7 10 23/\aP 8 7 32))/\(aP 9 13 39/\(aP 5 3 12/\aP 10 2 51))):=⟨⟨⟨rfl,rfl⟩,⟨rfl,⟨rfl,rfl⟩⟩⟩,⟨⟨rfl,⟨rfl,rfl⟩⟩,⟨rfl,⟨rfl,rfl⟩⟩⟩⟩
def Te:((aP 0 6 3/\((iW 1 8 (some 16)=[(5,6)])/\aP 2 5 22))/\(aP 3 2 27/\(aP 4 5 28/\aP 5 2 33)))/\((aP 6 8 35/\(aP 7 8 41/\aP 8 5 46))/\((aP 9 11 51/\aP 10 31 59)/\(aP 11 5 90/\(iW 12 5 (some 92)=[(1,2)])))):=⟨⟨⟨rfl,⟨rfl,rfl⟩⟩,⟨rfl,⟨rfl,rfl⟩⟩⟩,⟨⟨rfl,⟨rfl,rfl⟩⟩,⟨⟨rfl,rfl⟩,⟨rfl,rfl⟩⟩⟩⟩
def aUS:(aP 0 2 3/\(iW 1 14 (some 5)=[(3,5),(3,8),(6,8),(3,11),(6,11),(9,11)]))/\((iW 2 8 (some 18)=[(3,5)])/\((iW 3 8 (some 25)=[(3,5)])/\(iW 4 13 (some 32)=[(4,7),(4,10),(8,10)]))):=⟨⟨rfl,rfl⟩,⟨rfl,⟨rfl,rfl⟩⟩⟩
def aNj:(aP 0 3 1/\aP 1 4 5)/\(aP 2 2 8/\(aP 3 3 10/\(iW 4 14 (some 11)=[(5,7),(5,10),(8,10)]))):=⟨⟨rfl,rfl⟩,⟨rfl,⟨rfl,rfl⟩⟩⟩
def ZA:((aP 0 3 1/\aP 1 4 6)/\(aP 2 2 2/\(iW 3 14 (some 10)=[(7,9),(7,10)])))/\((aP 4 1 5/\aP 5 5 23)/\(aP 7 8 30/\(aP 6 3 28/\aP 8 3 37))):=⟨⟨⟨rfl,rfl⟩,⟨rfl,rfl⟩⟩,⟨⟨rfl,rfl⟩,⟨rfl,⟨rfl,rfl⟩⟩⟩⟩
def aFP:(aP 0 3 1/\aP 1 8 4)/\(aP 2 2 2/\(iW 3 13 (some 12)=[(7,9)])):=⟨⟨rfl,rfl⟩,⟨rfl,rfl⟩⟩
def Yy:(((aP 0 4 3/\aP 1 13 16)/\(aP 2 2 23/\(aP 3 2 25/\aP 4 7 26)))/\((aP 5 6 32/\(iW 6 8 (some 37)=[(1,4)]))/\(aP 7 2 43/\(aP 8 2 45/\aP 9 14 47))))/\(((aP 10 6 59/\aP 11 3 65)/\(aP 12 9 68/\(aP 13 1 13/\aP 14 1 14)))/\((aP 15 6 74/\(aP 17 9 82/\aP 18 10 91))/\(aP 16 3 80/\(aP 19 4 100/\aP 20 2 103)))):=⟨⟨⟨⟨rfl,rfl⟩,⟨rfl,⟨rfl,rfl⟩⟩⟩,⟨⟨rfl,rfl⟩,⟨rfl,⟨rfl,rfl⟩⟩⟩⟩,⟨⟨⟨rfl,rfl⟩,⟨rfl,⟨rfl,rfl⟩⟩⟩,⟨⟨rfl,⟨rfl,rfl⟩⟩,⟨rfl,⟨rfl,rfl⟩⟩⟩⟩⟩
def Tb:((aP 0 5 2/\aP 1 1 7)/\(aP 2 5 9/\aP 4 11 16))/\((aP 5 7 27/\aP 6 13 32)/\((iW 7 5 (some 44)=[(1,2)])/\(aP 3 3 14/\aP 8 5 46))):=⟨⟨⟨rfl,rfl⟩,⟨rfl,rfl⟩⟩,⟨⟨rfl,rfl⟩,⟨rfl,⟨rfl,rfl⟩⟩⟩⟩
def aUD:aP 0 2 3/\(iW 1 8 (some 5)=[(3,5)]):=⟨rfl,rfl⟩
def aNi:aP 0 2 3/\(iW 1 14 (some 5)=[(3,5),(3,8),(6,8),(3,11),(6,11),(9,11)]):=⟨rfl,rfl⟩
def Fh:((aP 0 6 3/\(iW 1 10 (some 13)=[(5,8)]))/\(aP 2 5 19/\(aP 3 2 24/\aP 4 5 25)))/\((aP 5 2 30/\aP 6 12 31)/\(aP 7 73 41/\(aP 8 5 114/\(iW 9 5 (some 116)=[(1,2)])))):=⟨⟨⟨rfl,rfl⟩,⟨rfl,⟨rfl,rfl⟩⟩⟩,⟨⟨rfl,rfl⟩,⟨rfl,⟨rfl,rfl⟩⟩⟩⟩
def EJ:(aP 0 1 4/\(aP 1 1 5/\aP 2 12 6))/\((aP 3 3 18/\aP 4 12 20)/\(aP 5 2 32/\(iW 6 12 (some 33)=[(6,9)]))):=⟨⟨rfl,⟨rfl,rfl⟩⟩,⟨⟨rfl,rfl⟩,⟨rfl,rfl⟩⟩⟩
def YI:(aP 0 2 3/\aP 1 1 5)/\(aP 2 15 6/\(aP 3 3 21/\(iW 4 13 (some 23)=[(7,10)]))):=⟨⟨rfl,rfl⟩,⟨rfl,⟨rfl,rfl⟩⟩⟩
end Go.Ab.Tryz
section
namespace Go.Ab
open Classical
variable {i:Int} {n k off:Nat} {kk:IntKind} {l:List Bool} {o:Option (List Int)}
def fg (x:Int):List AV:=[.v (.int .u8 x)]
def WW (x:Int):(fg x).length=1:=rfl
def aIS (s:Int):∀x∈fg s,Flat x:=by intro x N;simp[fg] at N;subst N;exact .v _
def gH (l:List Int):List AV:=l.flatMap fg
theorem pR (l:List Int):∀x∈gH l,Flat x:=by
 intro x N;obtain⟨y,_,Y⟩:=mem_flatMap.1 N
 exact aIS y x Y
section
variable {α:Type} {c:α->List AV} {sz:Nat}
theorem mL (G:∀x,(c x).length=sz) (l:List α):(l.flatMap c).length=l.length * sz:=by
 induction l with
 | nil=>simp
 | cons x l S=>simp only[flatMap_cons,length_append,G,length_cons,S];rw[Nat.succ_mul];omega
theorem wD (G:∀x,(c x).length=sz):∀(l:List α) (k:Nat),(l.flatMap c).take (k * sz)=(l.take k).flatMap c
 | [],k=>by simp
 | x :: l,0=>by simp
 | x :: l,k+1=>by
   simp only[flatMap_cons,take_succ_cons];rw[take_append,take_of_length_le (by rw[G,Nat.succ_mul];omega),G,show (k+1) * sz-sz=k * sz by rw[Nat.succ_mul];omega,wD G l k]
theorem Dk (G:∀x,(c x).length=sz):∀(l:List α) (k:Nat),(l.flatMap c).drop (k * sz)=(l.drop k).flatMap c
 | [],k=>by simp
 | x :: l,0=>by simp
 | x :: l,k+1=>by
   simp only[flatMap_cons,drop_succ_cons];rw[drop_append,drop_of_length_le (by rw[G,Nat.succ_mul];omega),nil_append,G,show (k+1) * sz-sz=k * sz by rw[Nat.succ_mul];omega,Dk G l k]
theorem ph (G:∀x,(c x).length=sz) {z:α} {l:List α} (h0:0<=i) (J:i<l.length):((l.flatMap c).drop (i.toNat * sz)).take sz=c (gx z l i):=by
 obtain⟨h,e⟩:=RJ (z:=z) h0 J
 rw[Dk G,e];have h2:=wD G (l.drop i.toNat) 1
 rw[Nat.one_mul] at h2;rw[h2];have S:(l.drop i.toNat).take 1=[l[i.toNat]]:=by rw[take_one];simp[head?_drop,h]
 rw[S];simp
theorem wI (G:∀x,(c x).length=sz) (l:List α) (k:Nat) (x:α) (h:k<l.length):dE (l.flatMap c) (k * sz) (c x) (k * sz+sz)=(l.set k x).flatMap c:=by
 unfold dE;rw[wD G,show k * sz+sz=(k+1) * sz by rw[Nat.succ_mul],Dk G,set_eq_take_append_cons_drop,if_pos h]
 simp
theorem Tj [Ext] {P:Program} {T e:Nat} (G:∀x,(c x).length=sz) {z:α} {l:List α} (h0:0<=i) (J:i<l.length) (R:rK P T=some k) (S:0<k) (ho:off+k<=sz) :
 pB P T (some (.row e sz n (l.flatMap c))) (i.toNat * sz+off)=gI P T (c (gx z l i)) off:=by
 obtain⟨M,_⟩:=RJ (z:=z) h0 J
 have Xb:=ph G (z:=z) h0 J
 have hle:i.toNat * sz+sz<=(l.flatMap c).length:=by
  rw[mL G,<- Nat.succ_mul];exact Nat.mul_le_mul_right _ M
 have Hr:=G (gx z l i)
 simp only[pB,gI];unfold rK at R;cases hi:lJ P T with
 | none=>rfl
 | some r =>
   obtain⟨b,k'⟩:=r
   rw[hi] at R;simp only[cR,cQ] at R;subst R;have hg:∀j,j<sz->(l.flatMap c)[i.toNat * sz+j]? = (c (gx z l i))[j]?:=fun j Y=>by
    rw[<- Xb,getElem?_take,if_pos Y,getElem?_drop]
   cases b with
   | true =>
     simp only
     have A:rd (l.flatMap c) (i.toNat * sz+off) k'=rd (c (gx z l i)) off k':=by
      unfold rd;rw[<- Xb,drop_take,drop_drop,take_take,Nat.min_eq_left WF]
     rw[A];have l1:k'<=(l.flatMap c).length-(i.toNat * sz+off):=WF
     have W:k'<=(c (gx z l i)).length-off:=WF
     rw[if_pos ⟨S,l1⟩,if_pos ⟨S,W⟩]
   | false =>
     simp only
     exact hg off WF
end
def aIT (ns:List Node):mX ⟨.sl ns.length (bS ns)⟩=bN ⟨ns⟩:=rfl
def JR (s:aF) (l:List Node):dE (aB s) 115 (bN ⟨l⟩) 116=aB { s with tree:=⟨.sl l.length (bS l)⟩}:=Ph s ⟨.sl l.length (bS l)⟩
def JS (s:State) (l:List Node):dE (aE s) 115 (bN ⟨l⟩) 116=aE { s with store:={ s.store with tree:=⟨.sl l.length (bS l)⟩} }:=zW s ⟨.sl l.length (bS l)⟩
namespace Tryz
open Go.Proofs
def aEv (st:St) (t:dH):eE st (ag t)=some (ag t):=cV (.agg _ (cM t))
def WX (st:St) (t:Request):eE st (ay t)=some (ay t):=cV (.agg _ (eD t))
def L6 (st:St) (s:aF) (h:Flat (bc s)):eE st (bc s)=some (bc s):=cV h
def L7 (st:St) (s:State) (h:Flat (bd s)):eE st (bd s)=some (bd s):=cV h
abbrev ue {α:Type} (e sz b:Nat) (c:α->List AV) (cs:List α->List AV):Prop:=∀x:α,My e sz b (some (1,c x))=some (none,.row e sz [x].length (cs [x]))
abbrev lz {α:Type} (e sz b:Nat) (cs:List α->List AV):Prop:=∀l:List α,bg l.length->My e sz b (some (l.length,cs l))=some (none,.row e sz l.length (cs l))
abbrev ma {α:Type} (e sz b:Nat) (c:α->List AV) (cs:List α->List AV):Prop:=∀(l:List α) (x:α) (s g:Nat),bg l.length->Mz e sz b (some (.row e sz l.length (cs l))) s g (some (1,c x))=some (some (s,g),.row e sz (l++[x]).length (cs (l++[x])))
abbrev aR3 {α:Type} (e sz b:Nat) (cs:List α->List AV):Prop:=∀(l m:List α) (s g:Nat),bg l.length->bg m.length->Mz e sz b (some (.row e sz l.length (cs l))) s g (some (m.length,cs m))=some (some (s,g),.row e sz (l++m).length (cs (l++m)))
abbrev uf {α:Type} (T:Nat) (cs:List α->List AV):Prop:=∀(st:St) (o:Option (List α)) (hi:Operand),dW prog st T (ov cs o) none (some hi)=NT (st.ev hi) (fun j=>if 0<=j/\j<=(ol o).length then some (ov cs (o.map (·.take j.toNat))) else dW prog st T (ov cs o) none (some hi)) (dW prog st T (ov cs o) none (some hi))
abbrev ug {α:Type} (T:Nat) (cs:List α->List AV):Prop:=∀(st:St) (o:Option (List α)) (lo:Operand),dW prog st T (ov cs o) (some lo) none=NT (st.ev lo) (fun j=>if 0<=j/\j<=(ol o).length then some (ov cs (o.map (·.drop j.toNat))) else dW prog st T (ov cs o) (some lo) none) (dW prog st T (ov cs o) (some lo) none)
abbrev a8F {α:Type} (T:Nat) (cs:List α->List AV) (c:α->List AV) (z:α):Prop:=∀(st:St) {l:List α} {kk:IntKind} {i:Int},0<=i->i<l.length->bK prog st T (.sl l.length (cs l)) (.v (.int kk i))=some (.ip (c (gx z l i)) 0)
abbrev iu {α:Type} (T:Nat) (cs:List α->List AV) (c:α->List AV) (z:α):Prop:=∀(st:St) {o:Option (List α)} {kk:IntKind} {i:Int},0<=i->i<(ol o).length->bK prog st T (ov cs o) (.v (.int kk i))=some (.ip (c (gx z (ol o) i)) 0)
section
variable {α:Type} {c:α->List AV} {cs:List α->List AV} {sz e b T:Nat} {z:α}
theorem Zw (cs:List α->List AV) (h0:cs []=[]) (st:St) (o:Option (List α)):bA st (ov cs o)=some ((ol o).length,cs (ol o)):=QbK
theorem Vo (o:Option (List α)) (h:∀x∈cs (ol o),Flat x):Flat (ov cs o):=by
 cases o with
 | none=>exact .v _
 | some l=>exact .sl _ _ h
theorem uh (cs:List α->List AV) (o:Option (List α)):(ov cs o).lL=true:=wa
theorem ui (cs:List α->List AV) (o:Option (List α)):(ov cs o).cells=[ov cs o]:=wa
theorem uj (na:gW prog T=none) (sl:dD prog T=some (e,sz,b)) (G:∀x,(c x).length=sz) (st:St) {l:List α} {kk:IntKind} {i:Int} (h0:0<=i) (J:i<l.length):bK prog st T (.sl l.length (l.flatMap c)) (.v (.int kk i))=some (.ip (c (gx z l i)) 0):=by
 have W:i.toNat<l.length:=WF
 have h2:i.toNat * sz+sz<=(l.flatMap c).length:=QbF
 have S:((l.flatMap c).drop (i.toNat * sz)).take sz=c (gx z l i):=ph G h0 J
 (simp only[bK,na,sl,h0,J,h2,and_self,if_true,S])<;>rfl
theorem Zx (na:gW prog T=none) (sl:dD prog T=some (e,sz,b)) (G:∀x,(c x).length=sz) (hs:cs=fun l=>l.flatMap c) (st:St) {o:Option (List α)} {kk:IntKind} {i:Int} (h0:0<=i) (J:i<(ol o).length):bK prog st T (ov cs o) (.v (.int kk i))=some (.ip (c (gx z (ol o) i)) 0):=by
 subst hs;cases o with
 | none=>simp[ol] at J;omega
 | some l=>exact uj na sl G st h0 J
theorem JT (G:∀x,(c x).length=sz) (x:α) (hb:1 * b<=140737488355328:=by decide):My e sz b (some (1,c x))=some (none,.row e sz [x].length ([x].flatMap c)):=by
 unfold My;simp only
 rw[if_pos ⟨by rw[G,Nat.one_mul],hb,ZB⟩,flatMap_cons,flatMap_nil,append_nil]
 rfl
theorem JU (G:∀x,(c x).length=sz) (l:List α) (h:bg l.length) (hb:b<=1000:=by decide):My e sz b (some (l.length,l.flatMap c))=some (none,.row e sz l.length (l.flatMap c)):=by
 unfold My;simp only
 rw[if_pos ⟨mL G l,Nat.le_trans (Nat.mul_le_mul (show l.length<=1000000 from WF) hb) ZB,xm⟩]
theorem QJ (G:∀x,(c x).length=sz) (l m:List α) (s g:Nat) (h:bg l.length) (h2:bg m.length) (hb:b<=1000:=by decide):Mz e sz b (some (.row e sz l.length (l.flatMap c))) s g (some (m.length,m.flatMap c))=some (some (s,g),.row e sz (l++m).length ((l++m).flatMap c)):=by
 simp only[Mz];rw[if_pos ⟨mL G m,trivial,trivial,Nat.le_trans (Nat.mul_le_mul (show l.length+m.length<=2000000 from WF) hb) ZB,xm⟩,flatMap_append,length_append]
theorem Vp (G:∀x,(c x).length=sz) (l:List α) (x:α) (s g:Nat) (h:bg l.length) (hb:b<=1000:=by decide):Mz e sz b (some (.row e sz l.length (l.flatMap c))) s g (some (1,c x))=some (some (s,g),.row e sz (l++[x]).length ((l++[x]).flatMap c)):=by
 have h':=QJ (e:=e) (b:=b) G l [x] s g h qe hb
 rwa [flatMap_cons,flatMap_nil,append_nil] at h'
theorem JV {cs:List AV} {e sz:Nat} (h:∀x∈cs,Flat x):lG (some (.row e sz n cs))=some (.sl n cs):=by
 unfold lG;simp only;rw[if_pos h]
theorem toG (sl:dD prog T=some (e,sz,b)) (G:∀x,(c x).length=sz) (h0:cs=fun l=>l.flatMap c) (st:St) (o:Option (List α)) (hi:Operand):dW prog st T (ov cs o) none (some hi)=NT (st.ev hi) (fun j=>if 0<=j/\j<=(ol o).length then some (ov cs (o.map (·.take j.toNat))) else dW prog st T (ov cs o) none (some hi)) (dW prog st T (ov cs o) none (some hi)):=by
 subst h0;unfold NT;split
 ·rename_i j Y;dsimp only
  split
  ·rename_i C
   obtain⟨W,J⟩:=C
   cases o with
   | none =>
     have:j=0:=by simp[ol] at J;omega
     subst this;simp[dW,sl,ov,Y]
   | some l =>
     have J:j<=l.length:=J
     have M:j.toNat<=l.length:=WF
     simp only[dW,sl,ov,Y];rw[if_pos ⟨Int.le_refl _,W,J,mL G l⟩];simp only[Int.toNat_zero,Nat.zero_mul,drop_zero,Int.sub_zero,cR];rw[show (l.flatMap c).take (j.toNat * sz)=(l.take j.toNat).flatMap c from wD G l j.toNat,length_take,Nat.min_eq_left M]
  ·rfl
 ·rfl
theorem uk (sl:dD prog T=some (e,sz,b)) (G:∀x,(c x).length=sz) (h0:cs=fun l=>l.flatMap c) (st:St) (o:Option (List α)) (lo:Operand):dW prog st T (ov cs o) (some lo) none=NT (st.ev lo) (fun j=>if 0<=j/\j<=(ol o).length then some (ov cs (o.map (·.drop j.toNat))) else dW prog st T (ov cs o) (some lo) none) (dW prog st T (ov cs o) (some lo) none):=by
 subst h0;unfold NT;split
 ·rename_i j Y;dsimp only
  split
  ·rename_i C
   obtain⟨W,J⟩:=C
   cases o with
   | none =>
     have:j=0:=by simp[ol] at J;omega
     subst this;simp[dW,sl,ov,Y]
   | some l =>
     have J:j<=l.length:=J
     have A:((l.length:Int)-j).toNat=l.length-j.toNat:=WF
     simp only[dW,sl,ov,Y];rw[if_pos ⟨W,J,Int.le_refl _,mL G l⟩];simp only[cR,A];rw[show (l.flatMap c).drop (j.toNat * sz)=(l.drop j.toNat).flatMap c from Dk G l j.toNat,length_drop,take_of_length_le];rw[mL G,length_drop];exact Nat.le_refl _
  ·rfl
 ·rfl
end
def QY {T:Nat} {l:List dH} (h0:0<=i) (J:i<l.length) (R:rK prog T=some k) (S:0<k) (p:off+k<=33):pB prog T (some (.row 40 33 n (mJ l))) (i.toNat * 33+off)=gI prog T (bI (gx dO l i)) off:=Tj nX h0 J R S p
def BV {T:Nat} {l:List dH} (h0:0<=i) (J:i<l.length) (R:rK prog T=some k) (S:0<k) (ho:k<=33):pB prog T (some (.row 40 33 n (mJ l))) (i.toNat * 33)=gI prog T (bI (gx dO l i)) 0:=by
 have h:=QY (n:=n) (off:=0) h0 J R S WF
 rw[Nat.add_zero] at h;exact h
def Sj (l:List dH) (i:Int) (x:dH) (h:i.toNat<l.length):dE (mJ l) (i.toNat * 33) (bI x) (i.toNat * 33+33)=mJ (l.set i.toNat x):=wI nX l i.toNat x h
def L9 (st:St) (o:Option (List lO)):bA st (ov dF o)=some ((ol o).length,dF (ol o)):=Zw dF rfl st o
theorem uW (o:Option (List lO)):Flat (ov dF o):=Vo o (mR _)
def M0 (o:Option (List lO)):(ov dF o).lL=true:=uh dF o
def aAM (o:Option (List lO)):(ov dF o).cells=[ov dF o]:=ui dF o
def aR4:a8F 36 dF oJ nP:=uj uc T8 xQ
def aR5:iu 36 dF oJ nP:=Zx uc T8 xQ rfl
def YJ:lz 167 34 48 dF:=fun l h=>JU xQ l h
def BX (n:Nat) (l:List lO):lG (some (.row 167 34 n (dF l)))=some (.sl n (dF l)):=JV (mR l)
def aCk {T:Nat} {l:List lO} (h0:0<=i) (J:i<l.length) (R:rK prog T=some k) (S:0<k) (p:off+k<=34):pB prog T (some (.row 167 34 n (dF l))) (i.toNat * 34+off)=gI prog T (oJ (gx nP l i)) off:=Tj xQ h0 J R S p
def RC {T:Nat} {l:List lO} (h0:0<=i) (J:i<l.length) (R:rK prog T=some k) (S:0<k) (ho:k<=34):pB prog T (some (.row 167 34 n (dF l))) (i.toNat * 34)=gI prog T (oJ (gx nP l i)) 0:=by
 have h:=aCk (n:=n) (off:=0) h0 J R S WF
 rw[Nat.add_zero] at h;exact h
def Sn (l:List lO) (i:Int) (x:lO) (h:i.toNat<l.length):dE (dF l) (i.toNat * 34) (oJ x) (i.toNat * 34+34)=dF (l.set i.toNat x):=wI xQ l i.toNat x h
def aAN (st:St) (o:Option (List qX)):bA st (ov cN o)=some ((ol o).length,cN (ol o)):=Zw cN rfl st o
def DP (o:Option (List qX)) (h:∀y∈ol o,Flat y.dL):Flat (ov cN o):=Vo o (uL _ h)
def aR6:iu 43 cN iE Sz:=Zx aYr ly Gm rfl
def CE:ue 68 67 104 iE cN:=fun x=>JT Gm x
def aBk:lz 68 67 104 cN:=fun l h=>JU Gm l h
def Mq:ma 68 67 104 iE cN:=fun l x s g h=>Vp Gm l x s g h
def RY (n:Nat) (l:List qX) (h:∀y∈l,Flat y.dL):lG (some (.row 68 67 n (cN l)))=some (.sl n (cN l)):=JV (uL l h)
def WY (st:St) (o:Option (List Table)):bA st (ov bG o)=some ((ol o).length,bG (ol o)):=Zw bG rfl st o
def mI (o:Option (List Table)) (h:∀y∈ol o,Flat y.fL):Flat (ov bG o):=Vo o (jL _ h)
def oI (st:St) (o:Option (List Table)) (h:∀y∈ol o,Flat y.fL):eE st (ov bG o)=some (ov bG o):=cV (mI o h)
def WZ (o:Option (List Table)):(ov bG o).lL=true:=uh bG o
def M1 (o:Option (List Table)):(ov bG o).cells=[ov bG o]:=ui bG o
def aR7:iu 50 bG cH fW:=Zx aO9 SS lY rfl
def PD:ue 74 34 64 cH bG:=fun x=>JT lY x
def ON:lz 74 34 64 bG:=fun l h=>JU lY l h
def We:ma 74 34 64 cH bG:=fun l x s g h=>Vp lY l x s g h
def OO:aR3 74 34 64 bG:=fun l m s g h h2=>QJ lY l m s g h h2
def EC (n:Nat) (l:List Table) (h:∀y∈l,Flat y.fL):lG (some (.row 74 34 n (bG l)))=some (.sl n (bG l)):=JV (jL l h)
def aZi:uf 50 bG:=toG SS lY rfl
def aMz:ug 50 bG:=uk SS lY rfl
def XA (st:St) (o:Option (List Block)):bA st (ov aK o)=some ((ol o).length,aK (ol o)):=Zw aK rfl st o
theorem vX (o:Option (List Block)):Flat (ov aK o):=Vo o (jA _)
def XB (st:St) (o:Option (List Block)):eE st (ov aK o)=some (ov aK o):=cV (vX o)
def aR8:iu 44 aK aY gQ:=Zx po Fm jQ rfl
def aEx:ue 66 238 336 aY aK:=fun x=>JT jQ x
def Mu:lz 66 238 336 aK:=fun l h=>JU jQ l h
def Wn:ma 66 238 336 aY aK:=fun l x s g h=>Vp jQ l x s g h
def OY:aR3 66 238 336 aK:=fun l m s g h h2=>QJ jQ l m s g h h2
def Fi (n:Nat) (l:List Block):lG (some (.row 66 238 n (aK l)))=some (.sl n (aK l)):=JV (jA l)
def M3 {T:Nat} {l:List Block} (h0:0<=i) (J:i<l.length) (R:rK prog T=some k) (S:0<k) (p:off+k<=238):pB prog T (some (.row 66 238 n (aK l))) (i.toNat * 238+off)=gI prog T (aY (gx gQ l i)) off:=Tj jQ h0 J R S p
def EW {T:Nat} {l:List Block} (h0:0<=i) (J:i<l.length) (R:rK prog T=some k) (S:0<k) (ho:k<=238):pB prog T (some (.row 66 238 n (aK l))) (i.toNat * 238)=gI prog T (aY (gx gQ l i)) 0:=by
 have h:=M3 (n:=n) (off:=0) h0 J R S WF
 rw[Nat.add_zero] at h;exact h
def aZj:uf 44 aK:=toG Fm jQ rfl
def aMA:ug 44 aK:=uk Fm jQ rfl
def JW (st:St) (o:Option (List Request)):bA st (ov aC o)=some ((ol o).length,aC (ol o)):=Zw aC rfl st o
def fS (o:Option (List Request)):Flat (ov aC o):=Vo o (dG _)
def JX (st:St) (o:Option (List Request)):eE st (ov aC o)=some (ov aC o):=cV (fS o)
def aR9:iu 53 aC cE cS:=Zx gf Ho jM rfl
def M4:ue 102 35 56 cE aC:=fun x=>JT jM x
def rX:lz 102 35 56 aC:=fun l h=>JU jM l h
def mS:ma 102 35 56 cE aC:=fun l x s g h=>Vp jM l x s g h
def Zb:aR3 102 35 56 aC:=fun l m s g h h2=>QJ jM l m s g h h2
def qJ (n:Nat) (l:List Request):lG (some (.row 102 35 n (aC l)))=some (.sl n (aC l)):=JV (dG l)
def Bu {T:Nat} {l:List Request} (h0:0<=i) (J:i<l.length) (R:rK prog T=some k) (S:0<k) (p:off+k<=35):pB prog T (some (.row 102 35 n (aC l))) (i.toNat * 35+off)=gI prog T (cE (gx cS l i)) off:=Tj jM h0 J R S p
theorem xF {T:Nat} {l:List Request} (h0:0<=i) (J:i<l.length) (R:rK prog T=some k) (S:0<k) (ho:k<=35):pB prog T (some (.row 102 35 n (aC l))) (i.toNat * 35)=gI prog T (cE (gx cS l i)) 0:=by
 have h:=Bu (n:=n) (off:=0) h0 J R S WF
 rw[Nat.add_zero] at h;exact h
def Qc (l:List Request) (i:Int) (x:Request) (h:i.toNat<l.length):dE (aC l) (i.toNat * 35) (cE x) (i.toNat * 35+35)=aC (l.set i.toNat x):=wI jM l i.toNat x h
def aZk:uf 53 aC:=toG Ho jM rfl
def aMB:ug 53 aC:=uk Ho jM rfl
def M5 (st:St) (o:Option (List bU)):bA st (ov fN o)=some ((ol o).length,fN (ol o)):=Zw fN rfl st o
def yM (o:Option (List bU)):Flat (ov fN o):=Vo o (La _)
def aMC:iu 152 fN aW bQ:=Zx aIt PK iN rfl
def Sy:ma 29 32 32 aW fN:=fun l x s g h=>Vp iN l x s g h
def xS (n:Nat) (l:List bU):lG (some (.row 29 32 n (fN l)))=some (.sl n (fN l)):=JV (La l)
def aCl {T:Nat} {l:List bU} (h0:0<=i) (J:i<l.length) (R:rK prog T=some k) (S:0<k) (p:off+k<=32):pB prog T (some (.row 29 32 n (fN l))) (i.toNat * 32+off)=gI prog T (aW (gx bQ l i)) off:=Tj iN h0 J R S p
def aBN {T:Nat} {l:List bU} (h0:0<=i) (J:i<l.length) (R:rK prog T=some k) (S:0<k) (ho:k<=32):pB prog T (some (.row 29 32 n (fN l))) (i.toNat * 32)=gI prog T (aW (gx bQ l i)) 0:=by
 have h:=aCl (n:=n) (off:=0) h0 J R S WF
 rw[Nat.add_zero] at h;exact h
def aMD (st:St) {l:List Bool} {kk:IntKind} {i:Int} (h0:0<=i) (J:i<l.length):bK prog st 138 (.sl l.length (iJ l)) (.v (.int kk i))=some (.ip ([ae (gx false l i)]) 0):=uj (c:=rZ) aIs QI xM st h0 J
def aIW (x:Bool):My 4 1 1 (some (1,[ae x]))=some (none,.row 4 1 [x].length (iJ [x])):=JT xM x
def YT (l:List Bool) (x:Bool) (s g:Nat) (h:bg l.length):Mz 4 1 1 (some (.row 4 1 l.length (iJ l))) s g (some (1,[ae x]))=some (some (s,g),.row 4 1 (l++[x]).length (iJ (l++[x]))):=Vp xM l x s g h
def RN (n:Nat) (l:List Bool):lG (some (.row 4 1 n (iJ l)))=some (.sl n (iJ l)):=JV (Ke l)
def aCm {T:Nat} (h0:0<=i) (J:i<l.length) (R:rK prog T=some k) (S:0<k) (p:off+k<=1):pB prog T (some (.row 4 1 n (iJ l))) (i.toNat * 1+off)=gI prog T ([ae (gx false l i)]) off:=Tj xM h0 J R S p
def CK {T:Nat} (h0:0<=i) (J:i<l.length) (R:rK prog T=some k) (S:0<k) (ho:k<=1):pB prog T (some (.row 4 1 n (iJ l))) (i.toNat * 1)=gI prog T ([ae (gx false l i)]) 0:=by
 have h:=aCm (n:=n) (off:=0) h0 J R S WF
 rw[Nat.add_zero] at h;exact h
def aBK (l:List Bool) (i:Int) (x:Bool) (h:i.toNat<l.length):dE (iJ l) (i.toNat * 1) ([ae x]) (i.toNat * 1+1)=iJ (l.set i.toNat x):=wI xM l i.toNat x h
def pS (o:Option (List Int)):Flat (ov gH o):=Vo o (pR _)
def jW (st:St) (o:Option (List Int)):eE st (ov gH o)=some (ov gH o):=cV (pS o)
def ES (x:Int):My 5 1 1 (some (1,[.v (.int .u8 x)]))=some (none,.row 5 1 [x].length (gH [x])):=JT WW x
def xD (l:List Int) (x:Int) (s g:Nat) (h:bg l.length):Mz 5 1 1 (some (.row 5 1 l.length (gH l))) s g (some (1,[.v (.int .u8 x)]))=some (some (s,g),.row 5 1 (l++[x]).length (gH (l++[x]))):=Vp WW l x s g h
def ET (l m:List Int) (s g:Nat) (h:bg l.length) (h2:bg m.length):Mz 5 1 1 (some (.row 5 1 l.length (gH l))) s g (some (m.length,gH m))=some (some (s,g),.row 5 1 (l++m).length (gH (l++m))):=QJ WW l m s g h h2
def qQ (n:Nat) (l:List Int):lG (some (.row 5 1 n (gH l)))=some (.sl n (gH l)):=JV (pR l)
def aAO (st:St) (o:Option (List Int)):bA st (ov aH o)=some ((ol o).length,aH (ol o)):=Zw aH rfl st o
theorem bR (o:Option (List Int)):Flat (ov aH o):=Vo o (eP _)
def Hj (st:St) (o:Option (List Int)):eE st (ov aH o)=some (ov aH o):=cV (bR o)
def aAP (o:Option (List Int)):(ov aH o).lL=true:=uh aH o
def aEy (o:Option (List Int)):(ov aH o).cells=[ov aH o]:=ui aH o
def aSa (st:St) {o:Option (List Int)} {kk:IntKind} {i:Int} (h0:0<=i) (J:i<(ol o).length):bK prog st 22 (ov aH o) (.v (.int kk i))=some (.ip ([aa (gx (0:Int) (ol o) i)]) 0):=Zx (c:=oF) ua Ny wL rfl st h0 J
def Ss (l:List Int) (h:bg l.length):My 3 1 8 (some (l.length,aH l))=some (none,.row 3 1 l.length (aH l)):=JU wL l h
def Ai (l:List Int) (x:Int) (s g:Nat) (h:bg l.length):Mz 3 1 8 (some (.row 3 1 l.length (aH l))) s g (some (1,[aa x]))=some (some (s,g),.row 3 1 (l++[x]).length (aH (l++[x]))):=Vp wL l x s g h
def RK (l m:List Int) (s g:Nat) (h:bg l.length) (h2:bg m.length):Mz 3 1 8 (some (.row 3 1 l.length (aH l))) s g (some (m.length,aH m))=some (some (s,g),.row 3 1 (l++m).length (aH (l++m))):=QJ wL l m s g h h2
def zG (n:Nat) (l:List Int):lG (some (.row 3 1 n (aH l)))=some (.sl n (aH l)):=JV (eP l)
def aZl:uf 22 aH:=toG Ny wL rfl
def aME:ug 22 aH:=uk Ny wL rfl
def aAQ (st:St) (o:Option (List Int)):bA st (ov bD o)=some ((ol o).length,bD (ol o)):=Zw bD rfl st o
theorem cP (o:Option (List Int)):Flat (ov bD o):=Vo o (fB _)
def aAR (o:Option (List Int)):(ov bD o).lL=true:=uh bD o
def aEz (o:Option (List Int)):(ov bD o).cells=[ov bD o]:=ui bD o
def aSb (st:St) {l:List Int} {kk:IntKind} {i:Int} (h0:0<=i) (J:i<l.length):bK prog st 30 (.sl l.length (bD l)) (.v (.int kk i))=some (.ip ([ac (gx (0:Int) l i)]) 0):=uj (c:=qY) ub ZS tV st h0 J
def aSc (st:St) {o:Option (List Int)} {kk:IntKind} {i:Int} (h0:0<=i) (J:i<(ol o).length):bK prog st 30 (ov bD o) (.v (.int kk i))=some (.ip ([ac (gx (0:Int) (ol o) i)]) 0):=Zx (c:=qY) ub ZS tV rfl st h0 J
def aMF (x:Int):My 23 1 8 (some (1,[ac x]))=some (none,.row 23 1 [x].length (bD [x])):=JT tV x
def Hb (l:List Int) (h:bg l.length):My 23 1 8 (some (l.length,bD l))=some (none,.row 23 1 l.length (bD l)):=JU tV l h
def Hf (l:List Int) (x:Int) (s g:Nat) (h:bg l.length):Mz 23 1 8 (some (.row 23 1 l.length (bD l))) s g (some (1,[ac x]))=some (some (s,g),.row 23 1 (l++[x]).length (bD (l++[x]))):=Vp tV l x s g h
def zA (n:Nat) (l:List Int):lG (some (.row 23 1 n (bD l)))=some (.sl n (bD l)):=JV (fB l)
def aIX {T:Nat} {l:List Int} (h0:0<=i) (J:i<l.length) (R:rK prog T=some k) (S:0<k) (p:off+k<=1):pB prog T (some (.row 23 1 n (bD l))) (i.toNat * 1+off)=gI prog T ([ac (gx (0:Int) l i)]) off:=Tj tV h0 J R S p
def Wi {T:Nat} {l:List Int} (h0:0<=i) (J:i<l.length) (R:rK prog T=some k) (S:0<k) (ho:k<=1):pB prog T (some (.row 23 1 n (bD l))) (i.toNat * 1)=gI prog T ([ac (gx (0:Int) l i)]) 0:=by
 have h:=aIX (n:=n) (off:=0) h0 J R S WF
 rw[Nat.add_zero] at h;exact h
theorem aFy (l:List Int) (i:Int) (x:Int) (h:i.toNat<l.length):dE (bD l) (i.toNat * 1) ([ac x]) (i.toNat * 1+1)=bD (l.set i.toNat x):=wI tV l i.toNat x h
def aKw (n:Nat) (l:List Node):lG (some (.row 84 240 n (bS l)))=some (.sl n (bS l)):=JV (iG l)
end Tryz
end Go.Ab
end
namespace Go.Ab.Tryz
open Classical Go.Proofs Go.Ab
variable {ns:List Node} {i:Int}
def FT:=aj (aj (ke (ke @aEv @WX @aIT @JR @JS @L6 @L7 @QY) (ke @BV @Sj @L9 @M0 @aAM @aR4 @aR5 @YJ) (ke @BX @aCk @RC @Sn @aAN @aR6 @CE @aBk) (ke @Mq @RY @WY @oI @WZ @M1 @aR7 @PD) (ke @ON @We @OO @EC @aZi @aMz @XA @XB) (ke @aR8 @aEx @Mu @Wn @OY @Fi @M3 @EW) (ke @aZj @aMA @JW @JX @aR9 @M4 @rX @mS) (ke @Zb @qJ @Bu @xF @Qc @aZk @aMB @M5)) (ka (ke @aMC @Sy @xS @aCl @aBN @aMD @aIW @YT) (ke @RN @aCm @CK @aBK @jW @ES @xD @ET) (ke @qQ @aAO @Hj @aAP @aEy @aSa @Ss @Ai) (ke @RK @zG @aZl @aME @aAQ @aAR @aEz @aSb))) (ke @aSc @aMF @Hb @Hf @zA @aIX @Wi @aFy)
def E8:=EV
def L8:=LE
def R8:=RD
def F8:=aj FA FT
def EGn:=aj (aj (ke (ke @size_toArray.{0} @fP @gT @fQ @fY @gU @D6 @D7) (ke @aB5 @RT @QD @I2 @aAo @aAk @G4 @bV) (ke @aN @aV @aD5 @aAm @aD6 @aIb @aIc @G7) (ke @G8 @G9 @H0 @H2 @H3 @H4 @H5 @H6) (ke @H7 @H8 @H9 @I0 @I1 @aQw @Th @Bs) (ke @aCd @aLO @aD7 @aLP @aIe @aQt @aIf @xT) (ke @VK @I3 @aLQ @aIg @aIh @aLR @VL @aIi) (ke @VM @aAp @aAq @aIj @aAr @aQu @Tg @Kl)) (aj (ka @aLS @aIk @aIl @aIm) (aj @aQv @aD8))) @aIn
def ZC:=aj (aj L8 R8) F8
def Z8:=aj EV ZC
def ZG:=aj (ka EGn @aD3 Z8 @Bool.false_and) @Prod.mk.injEq.{0,0}
theorem bm (x:Int) (J:-9223372036854775808<=x) (h2:x<=9223372036854775807):i64.wrap x=x:=wrap_i64 x J h2
def a8G (ns:List Node) (i:Int):aA prog 160 [ak ⟨ns⟩,aa i]=some (ae (decide (0<=i) && decide (i<ns.length))):=by
 rw[cL func160 rfl aY1 rfl];by_cases h:0<=i
 all_goals
  simp only[ZZ,seval,h,decide_true,decide_false,Bool.false_eq_true,Bool.true_and,Bool.false_and];exact bE rfl Vt (.v _)
def Nr (ns:List Node) (i:Int):KC 160 [ak ⟨ns⟩,aa i] (ae (decide (0<=i) && decide (i<ns.length))):=fun _ _=>aX (aU (gZ _) (.v _)) (a8G ns i) (.v _)
def Hc (n:Int):Bool:=decide (0<=n) && decide (n<=2)
def c77 (i:Int):aA prog 77 [aa i]=some (ae (Hc i)):=by
 rw[cL func77 rfl a8C rfl];by_cases h:0<=i
 all_goals
  simp only[ZZ,seval,h,decide_true,decide_false,Bool.false_eq_true,Bool.true_and,Bool.false_and];exact bE rfl (by simp only[EV,seval,Hc,h,decide_true,decide_false,Bool.false_and,Bool.true_and]) (.v _)
def aD (ns:List Node) (r:bU):Int:=match ns.findIdx? (fun n=>decide (n.block.root=r)) with
 | some k=>(k:Int)
 | none=>-1
def M6 {r:bU} (h0:0<=i) (J:i<ns.length) (X:(nd ns i).block.root=r) (hb:∀j,0<=j->j<i->(nd ns j).block.root≠r):aD ns r=i:=by
 obtain⟨hi,e⟩:=Pv h0 J
 have:ns.findIdx? (fun n=>decide (n.block.root=r))=some i.toNat:=by
  rw[findIdx?_eq_some_iff_getElem];refine⟨hi,by simp[<- e,X],fun j hj=>?_⟩
  have h:=hb j WF WF
  grind [nd]
 grind [aD]
theorem JY {r:bU} (hb:∀j,0<=j->j<(ns.length:Int)->(nd ns j).block.root≠r):aD ns r=-1:=by
 have:ns.findIdx? (fun n=>decide (n.block.root=r))=none:=by
  rw[findIdx?_eq_none_iff];intro n M;obtain⟨j,hj,rfl⟩:=getElem_of_mem M
  have h:=hb j WF WF
  grind [nd]
 unfold aD;rw[this]
def db (ns:List Node) (r:bU) (hn:bg ns.length):aA prog 11 [ak ⟨ns⟩,.agg (aW r)]=some (aa (aD ns r)):=by
 rw[cL func11 rfl a8z rfl];simp only[ZZ,seval];refine gL (fun n st=>∃i:Int,st.env 2=.ptr 2 0 0/\st.env 3=.ptr 3 0 0/\st.heap 2 0=some (.cells (bN ⟨ns⟩))/\st.heap 3 0=some (.cells (aW r))/\st.env 5=aa i/\0<=i/\i<=ns.length/\n=(ns.length-i).toNat /\
  ∀j,0<=j->j<i->(nd ns j).block.root≠r)
  (fun e st=>(e=.ret/\st.env 4=aa (aD ns r))\/(e=.exit 0/\aD ns r=-1)) ns.length ?step ?start ?rest
 case step =>
  rintro n st ⟨i,h2,S,p,N,C,i0,i1,Rj,hb⟩
  by_cases A:i<ns.length
  ·have hw:i64.wrap (i+1)=i+1:=bm _ WF WF
   by_cases X:(nd ns i).block.root=r
   ·apply oT (.ret)
    ·simp only[ZZ,seval,h2,S,p,N,C,A,i0,X];rfl
    ·exact .inl ⟨rfl,by simp only[EV,seval,M6 i0 A X hb]⟩
   ·apply oN ((ns.length-(i+1)).toNat)
    ·simp only[ZZ,seval,h2,S,p,N,C,A,i0,X,hw];rfl
    ·exact⟨i+1,xj,vy,yr,vz,Vt,WF,WF,rfl,fun j j0 j1=>by
     grind⟩
  ·apply oT (.exit 0)
   ·simp only[ZZ,seval,h2,S,p,N,C,A,i0];rfl
   grind [JY]
 case start=>exact⟨0,Vt,Vt,Vt,Vt,Vt,WF,WF,WF,fun j _ _=>WF⟩
 case rest =>
  rintro e st (⟨rfl,h⟩|⟨rfl,h⟩)
  ·simp only[ZZ,seval];exact bE rfl h (.v _)
  ·simp only[ZZ,seval];exact bE rfl zn (.v _)
def aZm (args:List AV) (st:St) (d:Option Nat):aO (aA prog) 230 args st d=oK (aA prog) 230 (bM (args.map (eE st))) (decide (∀x∈args,Flat x)) st d:=dZ _ _ _ _ _
def aT9 (l:List Int) (a:Int) (hn:bg l.length):aA prog 230 [.sl l.length (aH l),aa a]=some (ae (decide (a∈l))):=by
 rw[cL func230 rfl aN7 rfl];simp only[ZZ,seval];refine gL (fun n st=>∃i:Int,st.env 0=.sl l.length (aH l)/\st.env 1=aa a/\st.env 5=aa i/\0<=i/\i<=l.length/\n=(l.length-i).toNat/\∀j,0<=j->j<i->it l j≠a)
  (fun e st=>(e=.ret/\st.env 4=ae (decide (a∈l)))\/(e=.exit 0/\decide (a∈l)=false)) l.length ?step ?start ?rest
 case step =>
  rintro n st ⟨i,h0,J,C,i0,i1,Rj,hb⟩
  by_cases A:i<l.length
  ·have hw:i64.wrap (i+1)=i+1:=bm _ WF WF
   obtain⟨hi,he⟩:=zD i0 A
   by_cases X:it l i=a
   ·have hm:decide (a∈l)=true:=qg
    have D:(it l i == a)=true:=by simp[X]
    apply oT (.ret)
    ·simp only[ZZ,seval,h0,J,C,A,i0,D];rfl
    ·exact .inl ⟨rfl,by simp only[EV,seval,hm]⟩
   ·have D:(it l i == a)=false:=by simp[X]
    apply oN ((l.length-(i+1)).toNat)
    ·simp only[ZZ,seval,h0,J,C,A,i0,D,hw];rfl
    ·exact⟨i+1,by simp only[EV,seval,h0],wn,Vt,WF,WF,rfl,fun j j0 j1=>by
     grind⟩
  ·apply oT (.exit 0)
   ·simp only[ZZ,seval,h0,J,C,A,i0];rfl
   ·exact .inr ⟨rfl,by
    rw[decide_eq_false_iff_not];intro hm;obtain⟨j,Y,rfl⟩:=getElem_of_mem hm
    exact hb j WF WF (by simp[it,Y])⟩
 case start=>exact⟨0,Vt,Vt,Vt,WF,WF,WF,fun j _ _=>WF⟩
 case rest =>
  rintro e st (⟨rfl,h⟩|⟨rfl,h⟩)
  ·simp only[ZZ,seval];exact bE rfl h (.v _)
  ·simp only[ZZ,seval];exact bE rfl zn (.v _)
def aM6 (a:Int):aA prog 230 [af,aa a]=some (ae false):=by
 rw[cL func230 rfl aN7 rfl];simp only[ZZ,seval,Ll,Int.natCast_zero,Int.lt_irrefl,decide_false];exact bE rfl Vt (.v _)
def a8H (l:List Int) (a:Int) (M:bg l.length) (fl:Bool) (st:St) (d:Option Nat):oK (aA prog) 230 (some [.sl l.length (aH l),aa a]) fl st d=some { dst:=d,val:=ae (decide (a∈l))}:=Ee (aT9 l a M)
def aZo (a:Int) (fl:Bool) (st:St) (d:Option Nat):oK (aA prog) 230 (some [af,aa a]) fl st d=some { dst:=d,val:=ae false}:=Ee (aM6 a)
def eK (ns:List Node):Prop:=∀i:Int,0<i->i<ns.length->0<=(nd ns i).up/\(nd ns i).up<i
def QK (ns:List Node):Nat->Int->List Int
 | 0,_=>[]
 | f+1,i=>if i=0 then [0] else QK ns f (nd ns i).up++[i]
def path (ns:List Node) (i:Int):List Int:=if 0<=i/\i<ns.length then QK ns (i.toNat+1) i else []
theorem JZ {ns:List Node} (h:eK ns):∀(f g:Nat) (i:Int),0<=i->i<ns.length->i.toNat<f->i.toNat<g->QK ns f i=QK ns g i
 | 0,_,i,_,_,J,_=>by omega
 | f+1,0,i,_,_,_,h2=>by omega
 | f+1,g+1,i,i0,i1,J,h2=>by
   simp only[QK];by_cases hi:i=0
   ·grind
   ·obtain⟨m,u1⟩:=h i WF i1
    rw[if_neg hi,if_neg hi,JZ h f g (nd ns i).up m WF WF WF]
theorem lQ (h:0<ns.length):path ns 0=[0]:=by
 unfold path;rw[if_pos ⟨WF,WF⟩]
 rfl
theorem iD (h:eK ns) (i0:0<i) (i1:i<ns.length):path ns i=path ns (nd ns i).up++[i]:=by
 obtain⟨u0,u1⟩:=h i i0 i1
 grind [path,QK.eq_2,JZ]
theorem sE (h:¬(0<=i/\i<ns.length)):path ns i=[]:=if_neg h
def aIY (h:eK ns):∀(k:Nat) (i:Int),i.toNat=k->0<=i->i<ns.length->(path ns i).length<=i+1:=by
 intro k;induction k using Nat.strongRecOn with
 | _ k ih =>
   intro i hk i0 i1;by_cases hi:i=0
   ·grind [lQ]
   ·obtain⟨u0,u1⟩:=h i WF i1
    rw[iD h WF i1]
    grind
def zZ (h:eK ns) (i:Int):((path ns i).length:Int)<=ns.length:=by
 by_cases hi:0<=i/\i<ns.length
 ·have:=aIY h _ i rfl hi.1 hi.2;omega
 ·rw[sE hi];simp
def a8I (ns:List Node) (i:Int) (h:¬(0<=i/\i<ns.length)):aA prog 89 [ak ⟨ns⟩,aa i]=some af:=by
 rw[cL func89 rfl aYT rfl];have l:(decide (0<=i) && decide (i<ns.length))=false:=by
  grind
 simp only[ZZ,seval,Nr,l];exact bE rfl Vt (.v _)
def c89 (ns:List Node) (hu:eK ns) (hn:bg ns.length):∀(k:Nat) (i:Int),i.toNat=k->0<=i->i<ns.length->aA prog 89 [ak ⟨ns⟩,aa i]=some (.uniq 3 1 (path ns i).length (aH (path ns i))):=by
 intro k;induction k using Nat.strongRecOn with
 | _ k S =>
   intro i hk i0 i1;have l:(decide (0<=i) && decide (i<ns.length))=true:=dv
   rw[cL func89 rfl aYT rfl];by_cases hi:i=0
   ·subst hi;simp only[ZZ,seval,Nr,l,i1,beq_self_eq_true];exact oH rfl wt (by simp only[EV,seval,lQ (show 0<ns.length from WF)];rfl) (eP _)
   ·obtain⟨m,u1⟩:=hu i WF i1
    have N:(i == 0)=false:=zq
    have X:=S (nd ns i).up.toNat WF _ rfl m WF
    have G:∀(st:St) (d:Nat),aO (aA prog) 89 [ak ⟨ns⟩,aa ((nd ns i).up)] st (some d)=some { dst:=some d,val:=.own d (st.aJ d),new:=some (d,[.row 3 1 (path ns (nd ns i).up).length (aH (path ns (nd ns i).up))])}:=fun st d=>gA (aU (gZ _) (.v _)) X
    have W:bg (path ns (nd ns i).up).length:=by have:=zZ hu (nd ns i).up;omega
    simp only[ZZ,seval,Nr,l,N,i0,i1,G,W];exact oH rfl wt (by simp only[EV,seval,iD hu (show 0<i from WF) i1]) (eP _)
def jk (ns:List Node) (hu:eK ns) (M:bg ns.length) (i:Int) (i0:0<=i) (i1:i<ns.length) (st:St) (d:Nat):aO (aA prog) 89 [ak ⟨ns⟩,aa i] st (some d)=some { dst:=some d,val:=.own d (st.aJ d),new:=some (d,[.row 3 1 (path ns i).length (aH (path ns i))])}:=gA (aU (gZ _) (.v _)) (c89 ns hu M _ i rfl i0 i1)
def oz (ns:List Node) (i:Int) (h:¬(0<=i/\i<ns.length)):KC 89 [ak ⟨ns⟩,aa i] af:=fun _ _=>aX (aU (gZ _) (.v _)) (a8I ns i h) (.v _)
def lN (ns:List Node) (a b:Int):Bool:=decide (a∈path ns b)
def a8J (ns:List Node) (hu:eK ns) (M:bg ns.length) (a b:Int):aA prog 232 [ak ⟨ns⟩,aa a,aa b]=some (ae (lN ns a b)):=by
 rw[cL func232 rfl aZa rfl];by_cases hb:0<=b/\b<ns.length
 ·have W:bg (path ns b).length:=by have:=zZ hu b;omega
  simp only[ZZ,seval,jk ns hu M b hb.1 hb.2,aZm,a8H,W];exact bE rfl (by simp only[EV,seval,lN]) (.v _)
 ·simp only[ZZ,seval,oz ns b hb,aZm,aZo];exact bE rfl (by simp only[EV,seval,lN,sE hb,not_mem_nil,decide_false]) (.v _)
def Ns (ns:List Node) (hu:eK ns) (M:bg ns.length) (a b:Int):KC 232 [ak ⟨ns⟩,aa a,aa b] (ae (lN ns a b)):=fun _ _=>aX (jC (gZ _) (.v _) (.v _)) (a8J ns hu M a b) (.v _)
end Go.Ab.Tryz
