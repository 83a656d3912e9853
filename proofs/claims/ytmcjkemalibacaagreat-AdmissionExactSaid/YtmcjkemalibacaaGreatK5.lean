/-
  Part 5 of the proof: an evaluator of programs, its soundness, and what functions of this program compute.
-/
import Derived.Test.YtmcjkemalibacaaGreatK4
set_option linter.all false
set_option maxRecDepth 20000
set_option maxHeartbeats 40000000
section
namespace Go.Ab
open Classical
abbrev Root:=Vector Int 32
abbrev Wide:=Vector Int 4
def cU64 (x:Int):List AV:=[.v (.int .u64 x)]
def cInt (x:Int):List AV:=[.v (.int .i64 x)]
def cBool (x:Bool):List AV:=[.v (.bool x)]
def cRoot (r:Root):List AV:=r.toList.map fun x=>.v (.int .u8 x)
def cWide (r:Wide):List AV:=r.toList.map fun x=>.v (.int .u64 x)
@[simp] theorem len_cU64 (x:Int):(cU64 x).length=1:=rfl
@[simp] theorem len_cInt (x:Int):(cInt x).length=1:=rfl
@[simp] theorem len_cBool (x:Bool):(cBool x).length=1:=rfl
@[simp] theorem len_cRoot (r:Root):(cRoot r).length=32:=by simp[cRoot]
@[simp] theorem len_cWide (r:Wide):(cWide r).length=4:=by simp[cWide]
theorem flat_cU64 (x:Int):∀ y∈cU64 x,Flat y:=by intro y hy;simp[cU64] at hy;subst hy;exact .v _
theorem flat_cInt (x:Int):∀ y∈cInt x,Flat y:=by intro y hy;simp[cInt] at hy;subst hy;exact .v _
theorem flat_cBool (x:Bool):∀ y∈cBool x,Flat y:=by intro y hy;simp[cBool] at hy;subst hy;exact .v _
theorem flat_cRoot (x:Root):∀ y∈cRoot x,Flat y:=by intro y hy;obtain⟨z,_,rfl⟩:=List.mem_map.1 hy;exact .v _
theorem flat_cWide (x:Wide):∀ y∈cWide x,Flat y:=by intro y hy;obtain⟨z,_,rfl⟩:=List.mem_map.1 hy;exact .v _
theorem rd_flatMap {α:Type} (c:α→List AV) (z:Nat) (hz:∀ a,(c a).length=z):∀ (l:List α) (i:Nat) (h:i < l.length),rd (l.flatMap c) (i * z) z=c l[i]
 | [],i,h=>by simp at h
 | a :: l,0,h=>by simp[rd,List.take_append,hz,List.take_of_length_le]
 | a :: l,i+1,h=>by
   have ih:=rd_flatMap c z hz l i (by simpa using h)
   simp only[List.flatMap_cons,List.getElem_cons_succ]
   rw[← ih]
   simp only[rd]
   rw[List.drop_append,List.drop_of_length_le (by rw[hz,Nat.succ_mul];omega),hz,Nat.succ_mul]
   simp
theorem cRoot_inj (a b:Root):cRoot a=cRoot b↔a=b:=by
 constructor
 ·intro h
  unfold cRoot at h
  have h2:a.toList=b.toList:=by
   have:=congrArg (List.map (fun x:AV=>match x with | .v (.int _ n)=>n | _=>0)) h
   simpa [List.map_map,Function.comp_def] using this
  exact Vector.toList_inj.1 h2
 ·intro h;rw[h]
theorem cWide_inj (a b:Wide):cWide a=cWide b↔a=b:=by
 constructor
 ·intro h
  unfold cWide at h
  have h2:a.toList=b.toList:=by
   have:=congrArg (List.map (fun x:AV=>match x with | .v (.int _ n)=>n | _=>0)) h
   simpa [List.map_map,Function.comp_def] using this
  exact Vector.toList_inj.1 h2
 ·intro h;rw[h]
def upd (cs:List AV) (o:Nat) (xs:List AV) (e:Nat):List AV:=cs.take o ++ xs ++ cs.drop e
section
variable {a b xs:List AV} {n o o' e e' k:Nat}
theorem appR (h:xs=b):a ++ xs=a ++ b:=by rw[h]
theorem appL (h:xs=b):xs ++ a=b ++ a:=by rw[h]
theorem rd_skip (h:o'=o+n) (ha:a.length=n):rd (a ++ b) o' k=rd b o k:=by
 subst h;subst ha
 simp only[rd]
 rw[List.drop_append,List.drop_of_length_le (by omega),List.nil_append,show o+a.length - a.length=o by omega]
theorem rd_head (ha:a.length=n):rd (a ++ b) 0 n=a:=by
 subst ha
 simp[rd]
theorem rd_last (ha:a.length=n):rd a 0 n=a:=by
 subst ha
 simp[rd]
theorem rd_in (h:o+k≤a.length):rd (a ++ b) o k=rd a o k:=by
 simp only[rd]
 rw[List.drop_append,List.take_append,show o - a.length=0 by omega,show k - (a.drop o).length=0 by simp;omega]
 simp
theorem get_skip (h:o'=o+n) (ha:a.length=n):(a ++ b)[o']? = b[o]?:=by
 subst h;subst ha
 rw[List.getElem?_append_right (by omega),show o+a.length - a.length=o by omega]
theorem get_in (h:o < a.length):(a ++ b)[o]? = a[o]?:=List.getElem?_append_left h
theorem up_skip (h:o'=o+n) (h':e'=e+n) (ha:a.length=n):upd (a ++ b) o' xs e'=a ++ upd b o xs e:=by
 subst h;subst h';subst ha
 simp only[upd]
 rw[List.take_append,List.take_of_length_le (by omega),List.drop_append,List.drop_of_length_le (by omega),show o+a.length - a.length=o by omega,show e+a.length - a.length=e by omega]
 simp
theorem up_head (ha:a.length=n):upd (a ++ b) 0 xs n=xs ++ b:=by
 subst ha
 simp[upd]
theorem up_last (ha:a.length=n):upd a 0 xs n=xs:=by
 subst ha
 simp[upd]
theorem up_in (h:o≤e∧e≤a.length):upd (a ++ b) o xs e=upd a o xs e ++ b:=by
 simp only[upd]
 rw[List.take_append,List.drop_append,show o - a.length=0 by omega,show e - a.length=0 by omega]
 simp
end
theorem cU64_inj (a b:Int):cU64 a=cU64 b↔a=b:=by simp[cU64]
theorem cInt_inj (a b:Int):cInt a=cInt b↔a=b:=by simp[cInt]
theorem cBool_inj (a b:Bool):cBool a=cBool b↔a=b:=by simp[cBool]
def zRoot:Root:=Vector.replicate 32 0
def zWide:Wide:=Vector.replicate 4 0
def vRoot:List Value:=List.replicate 32 (.int .u8 0)
def vWide:List Value:=List.replicate 4 (.int .u64 0)
theorem vRoot_c:vRoot.map AV.v=cRoot zRoot:=by simp[vRoot,cRoot,zRoot]
theorem vWide_c:vWide.map AV.v=cWide zWide:=by simp[vWide,cWide,zWide]
def lRoot:List Bool:=List.replicate 32 true
def lWide:List Bool:=List.replicate 4 true
theorem leafy_app {l m:List Bool}:∀ {xs ys xs' ys':List AV},Leafy l xs ys→Leafy m xs' ys'→Leafy (l ++ m) (xs ++ xs') (ys ++ ys'):=by
 induction l with
 | nil=>intro xs ys xs' ys' h h';cases xs<;>cases ys<;>first | exact h' | exact h.elim
 | cons b l ih =>
   intro xs ys xs' ys' h h'
   cases b
   ·cases xs with
    | nil=>exact h.elim
    | cons x xs=>cases ys with
      | nil=>unfold Leafy at h;split at h<;>first | exact h.elim | simp_all
      | cons y ys =>
        unfold Leafy at h
        split at h<;>simp_all [Leafy]
   ·cases xs with
    | nil=>exact h.elim
    | cons x xs=>cases ys with
      | nil=>unfold Leafy at h;split at h<;>first | exact h.elim | simp_all
      | cons y ys =>
        unfold Leafy at h
        split at h<;>simp_all [Leafy]
theorem leafy_ints (k:IntKind):∀ (a b:List Int),a.length=b.length→Leafy (List.replicate a.length true) (a.map fun x=>.v (.int k x)) (b.map fun x=>.v (.int k x))
 | [],[],_=>trivial
 | [],_ :: _,h=>by simp at h
 | _ :: _,[],h=>by simp at h
 | a :: l,b :: m,h=>⟨rfl,leafy_ints k l m (by simpa using h)⟩
theorem leafy_root (a b:Root):Leafy lRoot (cRoot a) (cRoot b):=by
 have:=leafy_ints .u8 a.toList b.toList (by simp)
 rw[Vector.length_toList] at this
 exact this
theorem leafy_wide (a b:Wide):Leafy lWide (cWide a) (cWide b):=by
 have:=leafy_ints .u64 a.toList b.toList (by simp)
 rw[Vector.length_toList] at this
 exact this
def placeTab (P:Program) (T:Nat):Option (List (Nat × Nat)) :=
 match P.underlying T with
 | some (.struct fs)=>if fs.all (fun f=>(P.info? f.type).isSome) then some (fs.toList.map fun f=>(f.offset,P.cellsOf f.type)) else none
 | _=>none
def placeArr (P:Program) (T:Nat):Option Nat :=
 match P.underlying T with
 | some (.array _ e)=>if (P.info? e).isSome then some (P.cellsOf e) else none
 | _=>none
theorem placeTab_eq {P:Program} {T:Nat} {l:List (Nat × Nat)} (h:placeTab P T=some l):placeOf P T=some fun i=>l[i]?:=by
 unfold placeTab at h
 unfold placeOf
 split at h
 ·rename_i fs hu
  split at h
  ·rename_i hall
   simp only[Option.some.injEq] at h
   subst h
   simp only[hu,hall,if_true]
   congr 1
   funext i
   simp
  ·cases h
 ·cases h
theorem placeArr_eq {P:Program} {T k:Nat} (h:placeArr P T=some k):placeOf P T=some fun i=>some (i * k,k):=by
 unfold placeArr at h
 unfold placeOf
 split at h
 ·rename_i n e hu
  split at h
  ·rename_i hall
   simp only[Option.some.injEq] at h
   subst h
   simp only[hu,hall,if_true]
  ·cases h
 ·cases h
theorem build_of {P:Program} {st:St} {T:Nat} {parts:List (Nat × Operand)} {z:List Value} {place:Nat→Option (Nat × Nat)} {c:List AV} (hz:zeroL P T=some z) (hc:z.map AV.v=c) (hp:placeOf P T=some place) :
 buildA P st T parts=if (parts.all fun p=>(st.ev p.2).stor)=true then (fillA place c (parts.map fun p=>(p.1,st.ev p.2))).map .agg else none:=by
 simp only[buildA,hz,hp,hc]
theorem fill_nil (place:Nat→Option (Nat × Nat)) (c:List AV):fillA place c []=some c:=rfl
theorem fill_cons (place:Nat→Option (Nat × Nat)) (c:List AV) (i:Nat) (x:AV) (r:List (Nat × AV)):fillA place c ((i,x) :: r)=bnd (place i) fun os =>
 if x.cells.length=os.2∧os.1+os.2≤c.length then fillA place (upd c os.1 x.cells (os.1+os.2)) r else none:=by
 simp only[fillA]
 cases place i<;>rfl
theorem eqAgg_of {P:Program} {T:Nat} {l:List Bool} {xs ys:List AV} {p:Prop} [Decidable p] (hl:eqLeaves P 20 T=some l) (ha:isAggT P T=true) (hg:P.eqGuardType P.depth T=false) (hf:Leafy l xs ys) (hp:xs=ys↔p) :
 eqAgg P T xs ys=some (decide p):=by
 unfold eqAgg
 rw[hl]
 simp only[ha,hg,hf,and_self,if_true]
 congr 1
 rw[Bool.eq_iff_iff]
 simp[hp]
def ldK (P:Program) (T:Nat):Option Nat :=
 match ldInfo P T with
 | some (_,k)=>some k
 | none=>none
theorem store_ptr {P:Program} {st:St} {T s g o:Nat} {x:AV}:storeSt P st T (.ptr s g o) x=bnd (ldK P T) fun k=>if x.cells.length=k∧x.stor=true then
 (match st.heap s g with
  | some (.cells cs)=>if o+k≤cs.length then some (st.setH s g (some (.cells (upd cs o x.cells (o+k))))) else none
  | some (.row e sz n cs)=>if o+k≤cs.length then some (st.setH s g (some (.row e sz n (upd cs o x.cells (o+k))))) else none
  | _=>none) else none:=by
 simp only[storeSt,storeA,ldK]
 cases ldInfo P T with
 | none=>rfl
 | some bk =>
   obtain⟨b,k⟩:=bk
   simp only[bnd]
   split
   ·split
    ·rename_i h;simp only[h];split<;>rfl
    ·rename_i h;simp only[h];split<;>rfl
    ·rename_i h1 h2
     split<;>rename_i h<;>first | rfl | exact absurd h (h1 _) | exact absurd h (h2 _ _ _ _)
   ·rfl
theorem rd_Root_all (s:Root):rd (cRoot s) 0 32=cRoot s:=rd_last (len_cRoot _)
theorem up_Root_all (s x:Root):upd (cRoot s) 0 (cRoot x) 32=cRoot x:=up_last (len_cRoot _)
theorem rd_Wide_all (s:Wide):rd (cWide s) 0 4=cWide s:=rd_last (len_cWide _)
theorem up_Wide_all (s x:Wide):upd (cWide s) 0 (cWide x) 4=cWide x:=up_last (len_cWide _)
theorem wrap_i64 (x:Int) (h1:-9223372036854775808≤x) (h2:x≤9223372036854775807):IntKind.i64.wrap x=x:=by
 rw[IntKind.wrap_i64];omega
theorem not_flat_own (s g:Nat):¬ Flat (.own s g):=by intro h;cases h
theorem not_flat_ptr (s g o:Nat):¬ Flat (.ptr s g o):=by intro h;cases h
theorem expo_id {st:St} {x:AV} (h:Flat x):expo st x=some x:=by unfold expo;rw[if_pos h]
theorem expo1_own {st:St} {s g e sz n:Nat} {cs:List AV} (h:st.heap s g=some (.row e sz n cs)) (hf:∀ c∈cs,Flat c):expo1 st (.own s g)=some (.sl n cs):=by
 unfold expo1
 rw[if_neg (not_flat_own s g)]
 simp only[h]
 rw[if_pos hf]
theorem expo1_id {st:St} {x:AV} (h:Flat x):expo1 st x=some x:=by unfold expo1;rw[if_pos h]
section
variable [Ext]
theorem endL_tmp {P:Program} {f:Nat} {fn:Func} {t:Nat} {st:St} {x:AV} {e:Ex} (hk:Ext.keep f=false) (he:e=.ret∨e=.normal) (hr:fn.results.toList=[.tmp t]) (hx:st.env t=x) (hf:Flat x):endL P f fn (e,st)=some x:=by
 have h1:finishF P f fn st=some x:=by
  unfold finishF
  rw[hk,if_neg (by simp)]
  unfold finishA
  rw[hr]
  simp only[resVal,bnd,hx,expoR]
  cases hf<;>simp only[expo]<;>rw[if_pos]<;>constructor<;>assumption
 rcases he with rfl | rfl<;>exact h1
theorem endL_cell {P:Program} {f:Nat} {fn:Func} {t T:Nat} {st:St} {y x:AV} {e:Ex} (hk:Ext.keep f=false) (he:e=.ret∨e=.normal) (hr:fn.results.toList=[.cell t T]) (hy:st.env t=y) (hx:loadA P st T y=some x) (hf:Flat x):endL P f fn (e,st)=some x:=by
 have h1:finishF P f fn st=some x:=by
  unfold finishF
  rw[hk,if_neg (by simp)]
  unfold finishA
  rw[hr]
  show bnd (bnd (readAt st (st.env t)) (loadVal P T)) (expoR st)=some x
  rw[hy,loadA_eq,hx]
  simp only[bnd,expoR]
  cases hf<;>simp only[expo]<;>rw[if_pos]<;>constructor<;>assumption
 rcases he with rfl | rfl<;>exact h1
theorem endL_row {P:Program} {f:Nat} {fn:Func} {t:Nat} {st:St} {e:Ex} {s g e' sz n:Nat} {cs:List AV} (hk:Ext.keep f=false) (he:e=.ret∨e=.normal) (hr:fn.results.toList=[.tmp t]) (hx:st.env t=.own s g) (hh:st.heap s g=some (.row e' sz n cs)) (hf:∀ c∈cs,Flat c):endL P f fn (e,st)=some (.uniq e' sz n cs):=by
 have h1:finishF P f fn st=some (.uniq e' sz n cs):=by
  unfold finishF
  rw[hk,if_neg (by simp)]
  unfold finishA
  rw[hr]
  simp only[resVal,bnd,hx,expoR,hh]
  rw[if_pos hf]
 rcases he with rfl | rfl<;>exact h1
theorem endL_cellx {P:Program} {f:Nat} {fn:Func} {t T:Nat} {st:St} {e:Ex} {z:AV} {cs:List AV} {y:AV} (hk:Ext.keep f=false) (he:e=.ret∨e=.normal) (hr:fn.results.toList=[.cell t T]) (hz:st.env t=z) (hx:loadA P st T z=some (.agg cs)) (hy:expo st (.agg cs)=some y):endL P f fn (e,st)=some y:=by
 have h1:finishF P f fn st=some y:=by
  unfold finishF
  rw[hk,if_neg (by simp)]
  unfold finishA
  rw[hr]
  show bnd (bnd (readAt st (st.env t)) (loadVal P T)) (expoR st)=some y
  rw[hz,loadA_eq,hx]
  simp only[bnd,expoR,hy]
 rcases he with rfl | rfl<;>exact h1
def resA (P:Program) (st:St) (r:ResultVar):Option AV :=
 match r with
 | .tmp t=>some (st.env t)
 | .cell t T=>loadA P st T (st.env t)
theorem resA_eq (P:Program) (st:St) (r:ResultVar):resVal P st r=resA P st r:=by
 cases r with
 | tmp t=>rfl
 | cell t T=>exact loadA_eq P st T _
theorem endL_two {P:Program} {f:Nat} {fn:Func} {st:St} {e:Ex} {r1 r2:ResultVar} {x1 x2 y1 y2:AV} (hk:Ext.keep f=false) (he:e=.ret∨e=.normal) (hr:fn.results.toList=[r1,r2])
 (h1:resA P st r1=some x1) (h2:resA P st r2=some x2) (e1:expo st x1=some y1) (e2:expo st x2=some y2):endL P f fn (e,st)=some (.tup [y1,y2]):=by
 have h:finishF P f fn st=some (.tup [y1,y2]):=by
  unfold finishF
  rw[hk,if_neg (by simp)]
  unfold finishA
  rw[hr]
  simp only[List.map_cons,List.map_nil,resA_eq,h1,h2,bnd,expoS_of e1,expoS_of e2,optAll,Option.map_some]
 rcases he with rfl | rfl<;>exact h
theorem endL_twoD {P:Program} {f:Nat} {fn:Func} {st:St} {e:Ex} {r1 r2:ResultVar} {x1 x2 y1 y2:AV} (hk:Ext.keep f=false) (he:e=.ret∨e=.normal) (hr:fn.results.toList=[r1,r2])
 (h1:resA P st r1=some x1) (h2:resA P st r2=some x2) (e0:expo st x1=none) (e1:expoD st x1=some y1) (e2:expo st x2=some y2):endL P f fn (e,st)=some (.tup [y1,y2]):=by
 have e1':expoS st x1=some y1:=(expoS_none e0).trans e1
 have h:finishF P f fn st=some (.tup [y1,y2]):=by
  unfold finishF
  rw[hk,if_neg (by simp)]
  unfold finishA
  rw[hr]
  simp only[List.map_cons,List.map_nil,resA_eq,h1,h2,bnd,e1',expoS_of e2,optAll,Option.map_some]
 rcases he with rfl | rfl<;>exact h
theorem endL_three {P:Program} {f:Nat} {fn:Func} {st:St} {e:Ex} {r1 r2 r3:ResultVar} {x1 x2 x3 y1 y2 y3:AV} (hk:Ext.keep f=false) (he:e=.ret∨e=.normal) (hr:fn.results.toList=[r1,r2,r3])
 (h1:resA P st r1=some x1) (h2:resA P st r2=some x2) (h3:resA P st r3=some x3) (e1:expo st x1=some y1) (e2:expo st x2=some y2) (e3:expo st x3=some y3):endL P f fn (e,st)=some (.tup [y1,y2,y3]):=by
 have h:finishF P f fn st=some (.tup [y1,y2,y3]):=by
  unfold finishF
  rw[hk,if_neg (by simp)]
  unfold finishA
  rw[hr]
  simp only[List.map_cons,List.map_nil,resA_eq,h1,h2,h3,bnd,expoS_of e1,expoS_of e2,expoS_of e3,optAll,Option.map_some]
 rcases he with rfl | rfl<;>exact h
end
section
variable [Ext]
theorem evL_condB {P:Program} (c:Operand) (a b:Code) (st:St):evL P (.cond c a b) st=onB (st.ev c) fun t=>if t=true then evL P a st else evL P b st:=by
 cases h:st.ev c with
 | v x =>
   cases x with
   | bool t=>exact evL_cond P c a b st h
   | _ =>
     apply Option.ext
     intro r
     rw[evL_iff]
     constructor
     ·rintro⟨n,m,h'⟩
      cases m with
      | zero=>simp[evC] at h'
      | succ m=>simp[evC,h] at h'
     ·intro h';simp[onB] at h'
 | _ =>
   apply Option.ext
   intro r
   rw[evL_iff]
   constructor
   ·rintro⟨n,m,h'⟩
    cases m with
    | zero=>simp[evC] at h'
    | succ m=>simp[evC,h] at h'
   ·intro h';simp[onB] at h'
def gslot (ops:Array Oper) (j:Nat):Option Nat:=(ops[j]?).bind (·.dst)
def onGd {α:Type} (x:AV) (want:Bool) (y n:Option α):Option α :=
 match x with
 | .v (.bool b)=>if b=want then y else n
 | .v _=>n
 | _=>none
def onS {α:Type} (d:Option Nat) (k:Nat→Option α) (n:Option α):Option α :=
 match d with
 | some d=>k d
 | none=>n
@[congr] theorem onGd_congr {α:Type} {x x':AV} {want:Bool} {y n:Option α} (h:x=x'):onGd x want y n=onGd x' want y n:=by rw[h]
@[congr] theorem onS_congr {α:Type} {d d':Option Nat} {k:Nat→Option α} {n:Option α} (h:d=d'):onS d k n=onS d' k n:=by rw[h]
theorem onGd_true {α:Type} (b:Bool) (y n:Option α):onGd (.v (.bool b)) true y n=if b=true then y else n:=rfl
theorem onGd_false {α:Type} (b:Bool) (y n:Option α):onGd (.v (.bool b)) false y n=if b=false then y else n:=rfl
theorem onGd_undef {α:Type} (w:Bool) (y n:Option α):onGd (.v undef) w y n=n:=rfl
theorem onS_some {α:Type} (d:Nat) (k:Nat→Option α) (n:Option α):onS (some d) k n=k d:=rfl
theorem ev_guardS {P:Program} {call:Nat→List AV→Option AV} {ops:Array Oper} {st:St} {d:Option Nat} {T:Nat} {pos:String} {aft:Array Edge} (op:Op) (j:Nat) (want:Bool) :
 evOp P call ops ⟨d,op,T,pos,aft,some (j,want)⟩ st=onS (gslot ops j) (fun s=>onGd (st.env s) want (evOp P call ops ⟨d,op,T,pos,aft,none⟩ st) (some (st.put d (.v undef)))) (some (st.put d (.v undef))):=by
 simp only[evOp,gv,gslot]
 cases (ops[j]?).bind (·.dst) with
 | none=>simp[onS]
 | some s =>
   simp only[onS]
   cases st.env s with
   | v x=>cases x<;>simp[onGd,opEff]<;>rename_i b<;>cases b<;>cases want<;>simp[opEff]
   | _=>rfl
end
section
variable {P:Program} {T:Nat} {k k1:IntKind} {a b:Int}
theorem bin_add:binA P .add T (.v (.int k a)) (.v (.int k b))=some (.v (.int k (k.wrap (a+b)))):=by simp[binA]
theorem bin_sub:binA P .sub T (.v (.int k a)) (.v (.int k b))=some (.v (.int k (k.wrap (a - b)))):=by simp[binA]
theorem bin_mul:binA P .mul T (.v (.int k a)) (.v (.int k b))=some (.v (.int k (k.wrap (a * b)))):=by simp[binA]
theorem bin_and:binA P .and T (.v (.int k a)) (.v (.int k b))=some (.v (.int k (k.wrap (BitVec.ofInt k.bits a &&& BitVec.ofInt k.bits b).toNat))):=by simp[binA]
theorem bin_eql:binA P .eql T (.v (.int k a)) (.v (.int k b))=some (.v (.bool (a == b))):=by simp[binA]
theorem bin_neq:binA P .neq T (.v (.int k a)) (.v (.int k b))=some (.v (.bool (a != b))):=by simp[binA]
theorem bin_lss:binA P .lss T (.v (.int k a)) (.v (.int k b))=some (.v (.bool (decide (a < b)))):=by simp[binA]
theorem bin_leq:binA P .leq T (.v (.int k a)) (.v (.int k b))=some (.v (.bool (decide (a≤b)))):=by simp[binA]
theorem bin_gtr:binA P .gtr T (.v (.int k a)) (.v (.int k b))=some (.v (.bool (decide (a > b)))):=by simp[binA]
theorem bin_geq:binA P .geq T (.v (.int k a)) (.v (.int k b))=some (.v (.bool (decide (a≥b)))):=by simp[binA]
theorem bin_quo (h:b≠0):binA P .quo T (.v (.int k a)) (.v (.int k b))=some (.v (.int k (k.wrap (a.tdiv b)))):=by simp[binA,h]
theorem bin_rem (h:b≠0):binA P .rem T (.v (.int k a)) (.v (.int k b))=some (.v (.int k (a.tmod b))):=by simp[binA,h]
theorem bin_shr (h:¬ b < 0):binA P .shr T (.v (.int k a)) (.v (.int k1 b))=some (.v (.int k (a.fdiv (2 ^ (min b.toNat k.bits))))):=by simp[binA,h]
theorem bin_shl (h:¬ b < 0):binA P .shl T (.v (.int k a)) (.v (.int k1 b))=some (.v (.int k (k.wrap (a * 2 ^ (min b.toNat k.bits))))):=by simp[binA,h]
end
theorem thenL_normal (s:St) (k:St→Option (Ex × St)):thenL (.normal,s) k=k s:=rfl
theorem thenL_ret (s:St) (k:St→Option (Ex × St)):thenL (.ret,s) k=some (.ret,s):=rfl
theorem thenL_exit (i:Nat) (s:St) (k:St→Option (Ex × St)):thenL (.exit i,s) k=some (.exit i,s):=rfl
theorem up_Root_at (r:Root) (i e:Nat) (x:Int) (h:i < 32) (he:e=i+1):upd (cRoot r) i [.v (.int .u8 x)] e=cRoot (r.set i x):=by
 subst he
 simp only[upd,cRoot,Vector.toList_set,List.map_set]
 rw[List.set_eq_take_append_cons_drop,if_pos (by simp[h])]
 simp
theorem up_Wide_at (r:Wide) (i e:Nat) (x:Int) (h:i < 4) (he:e=i+1):upd (cWide r) i [.v (.int .u64 x)] e=cWide (r.set i x):=by
 subst he
 simp only[upd,cWide,Vector.toList_set,List.map_set]
 rw[List.set_eq_take_append_cons_drop,if_pos (by simp[h])]
 simp
theorem loop_main [Ext] {P:Program} {b:Code} (Inv:Nat→St→Prop) (Q:Ex→St→Prop)
 (step:∀ n st,Inv n st→∃ e st',evL P b st=some (e,st')∧((e=.normal∧∃ m,m < n∧Inv m st')∨(e≠.normal∧Q e st'))):∀ n st,Inv n st→∃ e st',evL P (.loop b) st=some (e,st')∧e≠.normal∧Q e st':=by
 intro n
 induction n using Nat.strongRecOn with
 | _ n ih =>
   intro st h
   obtain⟨e,s1,h1,h2⟩:=step n st h
   rw[evL_loop,h1]
   rcases h2 with ⟨rfl,m,hm,hi⟩ | ⟨hne,hq⟩
   ·exact ih m hm s1 hi
   ·refine⟨e,s1, ?_,hne,hq⟩
    cases e with
    | normal=>exact absurd rfl hne
    | _=>rfl
theorem use_loop [Ext] {P:Program} {b:Code} {st:St} {β:Type} {k:Ex × St→Option β} {r:β} (Inv:Nat→St→Prop) (Q:Ex→St→Prop) (n:Nat)
 (step:∀ n st,Inv n st→∃ e st',evL P b st=some (e,st')∧((e=.normal∧∃ m,m < n∧Inv m st')∨(e≠.normal∧Q e st')))
 (start:Inv n st) (rest:∀ e st',Q e st'→k (e,st')=some r):bnd (evL P (.loop b) st) k=some r:=by
 obtain⟨e,s1,h1,h2,h3⟩:=loop_main Inv Q step n st start
 rw[h1];exact rest e s1 h3
theorem use_loopX [Ext] {P:Program} {b:Code} {st:St} {β:Type} {k:Ex × St→Option β} {R:β→Prop} (Inv:Nat→St→Prop) (Q:Ex→St→Prop) (n:Nat)
 (step:∀ n st,Inv n st→∃ e st',evL P b st=some (e,st')∧((e=.normal∧∃ m,m < n∧Inv m st')∨(e≠.normal∧Q e st')))
 (start:Inv n st) (rest:∀ e st',Q e st'→∃ r,k (e,st')=some r∧R r):∃ r,bnd (evL P (.loop b) st) k=some r∧R r:=by
 obtain⟨e,s1,h1,h2,h3⟩:=loop_main Inv Q step n st start
 rw[h1];exact rest e s1 h3
theorem bnd_assoc {α β γ:Type} (x:Option α) (f:α→Option β) (g:β→Option γ):bnd (bnd x f) g=bnd x fun a=>bnd (f a) g:=by cases x<;>rfl
theorem go_on [Ext] {P:Program} {b:Code} {st st':St} {n:Nat} {Inv:Nat→St→Prop} {Q:Ex→St→Prop} (h:evL P b st=some (.normal,st')) (m:Nat) (hm:m < n) (hi:Inv m st') :
 ∃ e st',evL P b st=some (e,st')∧((e=.normal∧∃ m,m < n∧Inv m st')∨(e≠.normal∧Q e st')):=⟨_,_,h,.inl ⟨rfl,m,hm,hi⟩⟩
theorem go_out [Ext] {P:Program} {b:Code} {st st':St} {e:Ex} {n:Nat} {Inv:Nat→St→Prop} {Q:Ex→St→Prop} (h:evL P b st=some (e,st')) (he:e≠.normal) (hq:Q e st') :
 ∃ e st',evL P b st=some (e,st')∧((e=.normal∧∃ m,m < n∧Inv m st')∨(e≠.normal∧Q e st')):=⟨_,_,h,.inr ⟨he,hq⟩⟩
def csInt (l:List Int):List AV:=l.flatMap cInt
@[simp] theorem len_csInt (l:List (Int)):(csInt l).length=l.length * 1:=by
 induction l with
 | nil=>rfl
 | cons x l ih=>simp only[csInt,List.flatMap_cons,List.length_append,len_cInt,List.length_cons] at *;omega
theorem flat_csInt (l:List (Int)):∀ x∈csInt l,Flat x:=by
 intro x hx
 obtain⟨y,_,hy⟩:=List.mem_flatMap.1 hx
 exact flat_cInt y x hy
theorem rd_csInt (l:List (Int)) (i:Nat) (h:i < l.length):rd (csInt l) (i * 1) 1=cInt l[i]:=rd_flatMap cInt 1 (len_cInt) l i h
def csU64 (l:List Int):List AV:=l.flatMap cU64
@[simp] theorem len_csU64 (l:List (Int)):(csU64 l).length=l.length * 1:=by
 induction l with
 | nil=>rfl
 | cons x l ih=>simp only[csU64,List.flatMap_cons,List.length_append,len_cU64,List.length_cons] at *;omega
theorem flat_csU64 (l:List (Int)):∀ x∈csU64 l,Flat x:=by
 intro x hx
 obtain⟨y,_,hy⟩:=List.mem_flatMap.1 hx
 exact flat_cU64 y x hy
def csRoot (l:List Root):List AV:=l.flatMap cRoot
@[simp] theorem len_csRoot (l:List (Root)):(csRoot l).length=l.length * 32:=by
 induction l with
 | nil=>rfl
 | cons x l ih=>simp only[csRoot,List.flatMap_cons,List.length_append,len_cRoot,List.length_cons] at *;omega
theorem flat_csRoot (l:List (Root)):∀ x∈csRoot l,Flat x:=by
 intro x hx
 obtain⟨y,_,hy⟩:=List.mem_flatMap.1 hx
 exact flat_cRoot y x hy
structure Ckpt where
 epoch:Int
 root:Root
def cCkpt (s:Ckpt):List AV:=cU64 s.epoch ++ (cRoot s.root)
@[simp] theorem len_cCkpt (s:Ckpt):(cCkpt s).length=33:=by simp[cCkpt]
theorem flat_cCkpt (s:Ckpt):∀ x∈cCkpt s,Flat x:=by
 intro x hx
 simp only[cCkpt,List.mem_append,List.mem_singleton] at hx
 rcases hx with hx | hx
 ·(exact flat_cU64 _ _ hx)
 ·(exact flat_cRoot _ _ hx)
theorem get_Ckpt_epoch (s:Ckpt):(cCkpt s)[0]? = some (.v (.int .u64 s.epoch)):=rfl
theorem up_Ckpt_epoch (s:Ckpt) (x:Int):upd (cCkpt s) 0 ([.v (.int .u64 x)]) 1=cCkpt { s with epoch:=x }:=up_head (len_cU64 _)
theorem rd_Ckpt_root (s:Ckpt):rd (cCkpt s) 1 32=cRoot s.root:=(rd_skip rfl (len_cU64 _)).trans (rd_last (len_cRoot _))
theorem up_Ckpt_root (s:Ckpt) (x:Root):upd (cCkpt s) 1 (cRoot x) 33=cCkpt { s with root:=x }:=(up_skip rfl rfl (len_cU64 _)).trans (appR (up_last (len_cRoot _)))
def zCkpt:Ckpt:=⟨0,zRoot⟩
def vCkpt:List Value:=[.int .u64 0] ++ (vRoot)
theorem vCkpt_c:vCkpt.map AV.v=cCkpt zCkpt:=by simp only[vCkpt,List.map_append,List.map_cons,List.map_nil,vRoot_c,vWide_c];rfl
def lCkpt:List Bool:=[true] ++ (lRoot)
theorem leafy_Ckpt (a b:Ckpt):Leafy lCkpt (cCkpt a) (cCkpt b):=(leafy_app (show Leafy [true] [_] [_] from ⟨rfl,trivial⟩) (leafy_root _ _))
theorem cCkpt_inj (a b:Ckpt):cCkpt a=cCkpt b↔a=b:=by
 refine⟨fun h=>?_,fun h=>by rw[h]⟩
 cases a;cases b
 simp only[cCkpt] at h
 obtain⟨h0,h⟩:=List.append_inj h (by simp)
 have e0:=(cU64_inj _ _).1 h0
 have e1:=(cRoot_inj _ _).1 h
 subst e0 e1
 rfl
theorem rd_Ckpt_all (s:Ckpt):rd (cCkpt s) 0 33=cCkpt s:=rd_last (len_cCkpt _)
theorem up_Ckpt_all (s x:Ckpt):upd (cCkpt s) 0 (cCkpt x) 33=cCkpt x:=up_last (len_cCkpt _)
structure Pulled where
 pj:Ckpt
 pf:Ckpt
def cPulled (s:Pulled):List AV:=cCkpt s.pj ++ (cCkpt s.pf)
@[simp] theorem len_cPulled (s:Pulled):(cPulled s).length=66:=by simp[cPulled]
theorem flat_cPulled (s:Pulled):∀ x∈cPulled s,Flat x:=by
 intro x hx
 simp only[cPulled,List.mem_append,List.mem_singleton] at hx
 rcases hx with hx | hx
 ·(exact flat_cCkpt _ _ hx)
 ·(exact flat_cCkpt _ _ hx)
theorem rd_Pulled_pj (s:Pulled):rd (cPulled s) 0 33=cCkpt s.pj:=rd_head (len_cCkpt _)
theorem up_Pulled_pj (s:Pulled) (x:Ckpt):upd (cPulled s) 0 (cCkpt x) 33=cPulled { s with pj:=x }:=up_head (len_cCkpt _)
theorem get_Pulled_pj_epoch (s:Pulled):(cPulled s)[0]? = some (.v (.int .u64 s.pj.epoch)):=(get_in (by rw[len_cCkpt];decide)).trans (get_Ckpt_epoch _)
theorem up_Pulled_pj_epoch (s:Pulled) (x:Int):upd (cPulled s) 0 ([.v (.int .u64 x)]) 1=cPulled { s with pj:={ s.pj with epoch:=x }}:=(up_in (by rw[len_cCkpt];decide)).trans (appL (up_Ckpt_epoch _ x))
theorem rd_Pulled_pf (s:Pulled):rd (cPulled s) 33 33=cCkpt s.pf:=(rd_skip rfl (len_cCkpt _)).trans (rd_last (len_cCkpt _))
theorem up_Pulled_pf (s:Pulled) (x:Ckpt):upd (cPulled s) 33 (cCkpt x) 66=cPulled { s with pf:=x }:=(up_skip rfl rfl (len_cCkpt _)).trans (appR (up_last (len_cCkpt _)))
theorem get_Pulled_pf_epoch (s:Pulled):(cPulled s)[33]? = some (.v (.int .u64 s.pf.epoch)):=(get_skip rfl (len_cCkpt _)).trans (get_Ckpt_epoch _)
def zPulled:Pulled:=⟨zCkpt,zCkpt⟩
def vPulled:List Value:=vCkpt ++ (vCkpt)
theorem vPulled_c:vPulled.map AV.v=cPulled zPulled:=by simp only[vPulled,List.map_append,List.map_cons,List.map_nil,vRoot_c,vWide_c,vCkpt_c];rfl
def lPulled:List Bool:=lCkpt ++ (lCkpt)
theorem leafy_Pulled (a b:Pulled):Leafy lPulled (cPulled a) (cPulled b):=(leafy_app (leafy_Ckpt _ _) (leafy_Ckpt _ _))
theorem cPulled_inj (a b:Pulled):cPulled a=cPulled b↔a=b:=by
 refine⟨fun h=>?_,fun h=>by rw[h]⟩
 cases a;cases b
 simp only[cPulled] at h
 obtain⟨h0,h⟩:=List.append_inj h (by simp)
 have e0:=(cCkpt_inj _ _).1 h0
 have e1:=(cCkpt_inj _ _).1 h
 subst e0 e1
 rfl
theorem rd_Pulled_all (s:Pulled):rd (cPulled s) 0 66=cPulled s:=rd_last (len_cPulled _)
theorem up_Pulled_all (s x:Pulled):upd (cPulled s) 0 (cPulled x) 66=cPulled x:=up_last (len_cPulled _)
structure Block where
 pulled:Pulled
 slot:Int
 root:Root
 parent:Root
 payload:Root
 diff:Wide
 pdiff:Wide
 just:Ckpt
 fin:Ckpt
 timely:Bool
def cBlock (s:Block):List AV:=cPulled s.pulled ++ (cU64 s.slot ++ (cRoot s.root ++ (cRoot s.parent ++ (cRoot s.payload ++ (cWide s.diff ++ (cWide s.pdiff ++ (cCkpt s.just ++ (cCkpt s.fin ++ (cBool s.timely)))))))))
@[simp] theorem len_cBlock (s:Block):(cBlock s).length=238:=by simp[cBlock]
theorem flat_cBlock (s:Block):∀ x∈cBlock s,Flat x:=by
 intro x hx
 simp only[cBlock,List.mem_append,List.mem_singleton] at hx
 rcases hx with hx | hx | hx | hx | hx | hx | hx | hx | hx | hx
 ·(exact flat_cPulled _ _ hx)
 ·(exact flat_cU64 _ _ hx)
 ·(exact flat_cRoot _ _ hx)
 ·(exact flat_cRoot _ _ hx)
 ·(exact flat_cRoot _ _ hx)
 ·(exact flat_cWide _ _ hx)
 ·(exact flat_cWide _ _ hx)
 ·(exact flat_cCkpt _ _ hx)
 ·(exact flat_cCkpt _ _ hx)
 ·(exact flat_cBool _ _ hx)
theorem rd_Block_pulled (s:Block):rd (cBlock s) 0 66=cPulled s.pulled:=rd_head (len_cPulled _)
theorem up_Block_pulled (s:Block) (x:Pulled):upd (cBlock s) 0 (cPulled x) 66=cBlock { s with pulled:=x }:=up_head (len_cPulled _)
theorem rd_Block_pulled_pj (s:Block):rd (cBlock s) 0 33=cCkpt s.pulled.pj:=(rd_in (by rw[len_cPulled];decide)).trans (rd_Pulled_pj _)
theorem up_Block_pulled_pj (s:Block) (x:Ckpt):upd (cBlock s) 0 (cCkpt x) 33=cBlock { s with pulled:={ s.pulled with pj:=x }}:=(up_in (by rw[len_cPulled];decide)).trans (appL (up_Pulled_pj _ x))
theorem get_Block_pulled_pj_epoch (s:Block):(cBlock s)[0]? = some (.v (.int .u64 s.pulled.pj.epoch)):=(get_in (by rw[len_cPulled];decide)).trans (get_Pulled_pj_epoch _)
theorem up_Block_pulled_pj_epoch (s:Block) (x:Int):upd (cBlock s) 0 ([.v (.int .u64 x)]) 1=cBlock { s with pulled:={ s.pulled with pj:={ s.pulled.pj with epoch:=x }} }:=(up_in (by rw[len_cPulled];decide)).trans (appL (up_Pulled_pj_epoch _ x))
theorem rd_Block_pulled_pf (s:Block):rd (cBlock s) 33 33=cCkpt s.pulled.pf:=(rd_in (by rw[len_cPulled];decide)).trans (rd_Pulled_pf _)
theorem up_Block_pulled_pf (s:Block) (x:Ckpt):upd (cBlock s) 33 (cCkpt x) 66=cBlock { s with pulled:={ s.pulled with pf:=x }}:=(up_in (by rw[len_cPulled];decide)).trans (appL (up_Pulled_pf _ x))
theorem get_Block_pulled_pf_epoch (s:Block):(cBlock s)[33]? = some (.v (.int .u64 s.pulled.pf.epoch)):=(get_in (by rw[len_cPulled];decide)).trans (get_Pulled_pf_epoch _)
theorem get_Block_slot (s:Block):(cBlock s)[66]? = some (.v (.int .u64 s.slot)):=(get_skip rfl (len_cPulled _)).trans (rfl)
theorem up_Block_slot (s:Block) (x:Int):upd (cBlock s) 66 ([.v (.int .u64 x)]) 67=cBlock { s with slot:=x }:=(up_skip rfl rfl (len_cPulled _)).trans (appR (up_head (len_cU64 _)))
theorem rd_Block_root (s:Block):rd (cBlock s) 67 32=cRoot s.root:=(rd_skip rfl (len_cPulled _)).trans ((rd_skip rfl (len_cU64 _)).trans (rd_head (len_cRoot _)))
theorem up_Block_root (s:Block) (x:Root):upd (cBlock s) 67 (cRoot x) 99=cBlock { s with root:=x }:=(up_skip rfl rfl (len_cPulled _)).trans (appR ((up_skip rfl rfl (len_cU64 _)).trans (appR (up_head (len_cRoot _)))))
theorem rd_Block_parent (s:Block):rd (cBlock s) 99 32=cRoot s.parent:=(rd_skip rfl (len_cPulled _)).trans ((rd_skip rfl (len_cU64 _)).trans ((rd_skip rfl (len_cRoot _)).trans (rd_head (len_cRoot _))))
theorem up_Block_parent (s:Block) (x:Root):upd (cBlock s) 99 (cRoot x) 131=cBlock { s with parent:=x }:=(up_skip rfl rfl (len_cPulled _)).trans (appR ((up_skip rfl rfl (len_cU64 _)).trans (appR ((up_skip rfl rfl (len_cRoot _)).trans (appR (up_head (len_cRoot _)))))))
theorem rd_Block_payload (s:Block):rd (cBlock s) 131 32=cRoot s.payload:=(rd_skip rfl (len_cPulled _)).trans ((rd_skip rfl (len_cU64 _)).trans ((rd_skip rfl (len_cRoot _)).trans ((rd_skip rfl (len_cRoot _)).trans (rd_head (len_cRoot _)))))
theorem up_Block_payload (s:Block) (x:Root):upd (cBlock s) 131 (cRoot x) 163=cBlock { s with payload:=x }:=(up_skip rfl rfl (len_cPulled _)).trans (appR ((up_skip rfl rfl (len_cU64 _)).trans (appR ((up_skip rfl rfl (len_cRoot _)).trans (appR ((up_skip rfl rfl (len_cRoot _)).trans (appR (up_head (len_cRoot _)))))))))
theorem rd_Block_diff (s:Block):rd (cBlock s) 163 4=cWide s.diff:=(rd_skip rfl (len_cPulled _)).trans ((rd_skip rfl (len_cU64 _)).trans ((rd_skip rfl (len_cRoot _)).trans ((rd_skip rfl (len_cRoot _)).trans ((rd_skip rfl (len_cRoot _)).trans (rd_head (len_cWide _))))))
theorem up_Block_diff (s:Block) (x:Wide):upd (cBlock s) 163 (cWide x) 167=cBlock { s with diff:=x }:=(up_skip rfl rfl (len_cPulled _)).trans (appR ((up_skip rfl rfl (len_cU64 _)).trans (appR ((up_skip rfl rfl (len_cRoot _)).trans (appR ((up_skip rfl rfl (len_cRoot _)).trans (appR ((up_skip rfl rfl (len_cRoot _)).trans (appR (up_head (len_cWide _)))))))))))
theorem rd_Block_pdiff (s:Block):rd (cBlock s) 167 4=cWide s.pdiff:=(rd_skip rfl (len_cPulled _)).trans ((rd_skip rfl (len_cU64 _)).trans ((rd_skip rfl (len_cRoot _)).trans ((rd_skip rfl (len_cRoot _)).trans ((rd_skip rfl (len_cRoot _)).trans ((rd_skip rfl (len_cWide _)).trans (rd_head (len_cWide _)))))))
theorem up_Block_pdiff (s:Block) (x:Wide):upd (cBlock s) 167 (cWide x) 171=cBlock { s with pdiff:=x }:=(up_skip rfl rfl (len_cPulled _)).trans (appR ((up_skip rfl rfl (len_cU64 _)).trans (appR ((up_skip rfl rfl (len_cRoot _)).trans (appR ((up_skip rfl rfl (len_cRoot _)).trans (appR ((up_skip rfl rfl (len_cRoot _)).trans (appR ((up_skip rfl rfl (len_cWide _)).trans (appR (up_head (len_cWide _)))))))))))))
theorem rd_Block_just (s:Block):rd (cBlock s) 171 33=cCkpt s.just:=(rd_skip rfl (len_cPulled _)).trans ((rd_skip rfl (len_cU64 _)).trans ((rd_skip rfl (len_cRoot _)).trans ((rd_skip rfl (len_cRoot _)).trans ((rd_skip rfl (len_cRoot _)).trans ((rd_skip rfl (len_cWide _)).trans ((rd_skip rfl (len_cWide _)).trans (rd_head (len_cCkpt _))))))))
theorem up_Block_just (s:Block) (x:Ckpt):upd (cBlock s) 171 (cCkpt x) 204=cBlock { s with just:=x }:=(up_skip rfl rfl (len_cPulled _)).trans (appR ((up_skip rfl rfl (len_cU64 _)).trans (appR ((up_skip rfl rfl (len_cRoot _)).trans (appR ((up_skip rfl rfl (len_cRoot _)).trans (appR ((up_skip rfl rfl (len_cRoot _)).trans (appR ((up_skip rfl rfl (len_cWide _)).trans (appR ((up_skip rfl rfl (len_cWide _)).trans (appR (up_head (len_cCkpt _)))))))))))))))
theorem get_Block_just_epoch (s:Block):(cBlock s)[171]? = some (.v (.int .u64 s.just.epoch)):=(get_skip rfl (len_cPulled _)).trans ((get_skip rfl (len_cU64 _)).trans ((get_skip rfl (len_cRoot _)).trans ((get_skip rfl (len_cRoot _)).trans ((get_skip rfl (len_cRoot _)).trans ((get_skip rfl (len_cWide _)).trans ((get_skip rfl (len_cWide _)).trans ((get_in (by rw[len_cCkpt];decide)).trans (get_Ckpt_epoch _))))))))
theorem rd_Block_fin (s:Block):rd (cBlock s) 204 33=cCkpt s.fin:=(rd_skip rfl (len_cPulled _)).trans ((rd_skip rfl (len_cU64 _)).trans ((rd_skip rfl (len_cRoot _)).trans ((rd_skip rfl (len_cRoot _)).trans ((rd_skip rfl (len_cRoot _)).trans ((rd_skip rfl (len_cWide _)).trans ((rd_skip rfl (len_cWide _)).trans ((rd_skip rfl (len_cCkpt _)).trans (rd_head (len_cCkpt _)))))))))
theorem up_Block_fin (s:Block) (x:Ckpt):upd (cBlock s) 204 (cCkpt x) 237=cBlock { s with fin:=x }:=(up_skip rfl rfl (len_cPulled _)).trans (appR ((up_skip rfl rfl (len_cU64 _)).trans (appR ((up_skip rfl rfl (len_cRoot _)).trans (appR ((up_skip rfl rfl (len_cRoot _)).trans (appR ((up_skip rfl rfl (len_cRoot _)).trans (appR ((up_skip rfl rfl (len_cWide _)).trans (appR ((up_skip rfl rfl (len_cWide _)).trans (appR ((up_skip rfl rfl (len_cCkpt _)).trans (appR (up_head (len_cCkpt _)))))))))))))))))
theorem get_Block_fin_epoch (s:Block):(cBlock s)[204]? = some (.v (.int .u64 s.fin.epoch)):=(get_skip rfl (len_cPulled _)).trans ((get_skip rfl (len_cU64 _)).trans ((get_skip rfl (len_cRoot _)).trans ((get_skip rfl (len_cRoot _)).trans ((get_skip rfl (len_cRoot _)).trans ((get_skip rfl (len_cWide _)).trans ((get_skip rfl (len_cWide _)).trans ((get_skip rfl (len_cCkpt _)).trans ((get_in (by rw[len_cCkpt];decide)).trans (get_Ckpt_epoch _)))))))))
theorem up_Block_fin_root (s:Block) (x:Root):upd (cBlock s) 205 (cRoot x) 237=cBlock { s with fin:={ s.fin with root:=x }}:=(up_skip rfl rfl (len_cPulled _)).trans (appR ((up_skip rfl rfl (len_cU64 _)).trans (appR ((up_skip rfl rfl (len_cRoot _)).trans (appR ((up_skip rfl rfl (len_cRoot _)).trans (appR ((up_skip rfl rfl (len_cRoot _)).trans (appR ((up_skip rfl rfl (len_cWide _)).trans (appR ((up_skip rfl rfl (len_cWide _)).trans (appR ((up_skip rfl rfl (len_cCkpt _)).trans (appR ((up_in (by rw[len_cCkpt];decide)).trans (appL (up_Ckpt_root _ x))))))))))))))))))
theorem get_Block_timely (s:Block):(cBlock s)[237]? = some (.v (.bool s.timely)):=(get_skip rfl (len_cPulled _)).trans ((get_skip rfl (len_cU64 _)).trans ((get_skip rfl (len_cRoot _)).trans ((get_skip rfl (len_cRoot _)).trans ((get_skip rfl (len_cRoot _)).trans ((get_skip rfl (len_cWide _)).trans ((get_skip rfl (len_cWide _)).trans ((get_skip rfl (len_cCkpt _)).trans ((get_skip rfl (len_cCkpt _)).trans (rfl)))))))))
theorem up_Block_timely (s:Block) (x:Bool):upd (cBlock s) 237 ([.v (.bool x)]) 238=cBlock { s with timely:=x }:=(up_skip rfl rfl (len_cPulled _)).trans (appR ((up_skip rfl rfl (len_cU64 _)).trans (appR ((up_skip rfl rfl (len_cRoot _)).trans (appR ((up_skip rfl rfl (len_cRoot _)).trans (appR ((up_skip rfl rfl (len_cRoot _)).trans (appR ((up_skip rfl rfl (len_cWide _)).trans (appR ((up_skip rfl rfl (len_cWide _)).trans (appR ((up_skip rfl rfl (len_cCkpt _)).trans (appR ((up_skip rfl rfl (len_cCkpt _)).trans (appR (up_last (len_cBool _)))))))))))))))))))
def zBlock:Block:=⟨zPulled,0,zRoot,zRoot,zRoot,zWide,zWide,zCkpt,zCkpt,false⟩
def vBlock:List Value:=vPulled ++ ([.int .u64 0] ++ (vRoot ++ (vRoot ++ (vRoot ++ (vWide ++ (vWide ++ (vCkpt ++ (vCkpt ++ ([.bool false])))))))))
theorem vBlock_c:vBlock.map AV.v=cBlock zBlock:=by simp only[vBlock,List.map_append,List.map_cons,List.map_nil,vRoot_c,vWide_c,vPulled_c,vCkpt_c];rfl
def lBlock:List Bool:=lPulled ++ ([true] ++ (lRoot ++ (lRoot ++ (lRoot ++ (lWide ++ (lWide ++ (lCkpt ++ (lCkpt ++ ([false])))))))))
theorem leafy_Block (a b:Block):Leafy lBlock (cBlock a) (cBlock b):=(leafy_app (leafy_Pulled _ _) (leafy_app (show Leafy [true] [_] [_] from ⟨rfl,trivial⟩) (leafy_app (leafy_root _ _) (leafy_app (leafy_root _ _) (leafy_app (leafy_root _ _) (leafy_app (leafy_wide _ _) (leafy_app (leafy_wide _ _) (leafy_app (leafy_Ckpt _ _) (leafy_app (leafy_Ckpt _ _) (show Leafy [false] [_] [_] from trivial))))))))))
theorem cBlock_inj (a b:Block):cBlock a=cBlock b↔a=b:=by
 refine⟨fun h=>?_,fun h=>by rw[h]⟩
 cases a;cases b
 simp only[cBlock] at h
 obtain⟨h0,h⟩:=List.append_inj h (by simp)
 obtain⟨h1,h⟩:=List.append_inj h (by simp)
 obtain⟨h2,h⟩:=List.append_inj h (by simp)
 obtain⟨h3,h⟩:=List.append_inj h (by simp)
 obtain⟨h4,h⟩:=List.append_inj h (by simp)
 obtain⟨h5,h⟩:=List.append_inj h (by simp)
 obtain⟨h6,h⟩:=List.append_inj h (by simp)
 obtain⟨h7,h⟩:=List.append_inj h (by simp)
 obtain⟨h8,h⟩:=List.append_inj h (by simp)
 have e0:=(cPulled_inj _ _).1 h0
 have e1:=(cU64_inj _ _).1 h1
 have e2:=(cRoot_inj _ _).1 h2
 have e3:=(cRoot_inj _ _).1 h3
 have e4:=(cRoot_inj _ _).1 h4
 have e5:=(cWide_inj _ _).1 h5
 have e6:=(cWide_inj _ _).1 h6
 have e7:=(cCkpt_inj _ _).1 h7
 have e8:=(cCkpt_inj _ _).1 h8
 have e9:=(cBool_inj _ _).1 h
 subst e0 e1 e2 e3 e4 e5 e6 e7 e8 e9
 rfl
theorem rd_Block_all (s:Block):rd (cBlock s) 0 238=cBlock s:=rd_last (len_cBlock _)
theorem up_Block_all (s x:Block):upd (cBlock s) 0 (cBlock x) 238=cBlock x:=up_last (len_cBlock _)
structure Node where
 block:Block
 up:Int
 status:Int
def cNode (s:Node):List AV:=cBlock s.block ++ (cInt s.up ++ (cInt s.status))
@[simp] theorem len_cNode (s:Node):(cNode s).length=240:=by simp[cNode]
theorem flat_cNode (s:Node):∀ x∈cNode s,Flat x:=by
 intro x hx
 simp only[cNode,List.mem_append,List.mem_singleton] at hx
 rcases hx with hx | hx | hx
 ·(exact flat_cBlock _ _ hx)
 ·(exact flat_cInt _ _ hx)
 ·(exact flat_cInt _ _ hx)
theorem rd_Node_block (s:Node):rd (cNode s) 0 238=cBlock s.block:=rd_head (len_cBlock _)
theorem up_Node_block (s:Node) (x:Block):upd (cNode s) 0 (cBlock x) 238=cNode { s with block:=x }:=up_head (len_cBlock _)
theorem rd_Node_block_pulled (s:Node):rd (cNode s) 0 66=cPulled s.block.pulled:=(rd_in (by rw[len_cBlock];decide)).trans (rd_Block_pulled _)
theorem rd_Node_block_pulled_pj (s:Node):rd (cNode s) 0 33=cCkpt s.block.pulled.pj:=(rd_in (by rw[len_cBlock];decide)).trans (rd_Block_pulled_pj _)
theorem get_Node_block_pulled_pj_epoch (s:Node):(cNode s)[0]? = some (.v (.int .u64 s.block.pulled.pj.epoch)):=(get_in (by rw[len_cBlock];decide)).trans (get_Block_pulled_pj_epoch _)
theorem rd_Node_block_pulled_pf (s:Node):rd (cNode s) 33 33=cCkpt s.block.pulled.pf:=(rd_in (by rw[len_cBlock];decide)).trans (rd_Block_pulled_pf _)
theorem get_Node_block_pulled_pf_epoch (s:Node):(cNode s)[33]? = some (.v (.int .u64 s.block.pulled.pf.epoch)):=(get_in (by rw[len_cBlock];decide)).trans (get_Block_pulled_pf_epoch _)
theorem get_Node_block_slot (s:Node):(cNode s)[66]? = some (.v (.int .u64 s.block.slot)):=(get_in (by rw[len_cBlock];decide)).trans (get_Block_slot _)
theorem rd_Node_block_root (s:Node):rd (cNode s) 67 32=cRoot s.block.root:=(rd_in (by rw[len_cBlock];decide)).trans (rd_Block_root _)
theorem rd_Node_block_payload (s:Node):rd (cNode s) 131 32=cRoot s.block.payload:=(rd_in (by rw[len_cBlock];decide)).trans (rd_Block_payload _)
theorem rd_Node_block_just (s:Node):rd (cNode s) 171 33=cCkpt s.block.just:=(rd_in (by rw[len_cBlock];decide)).trans (rd_Block_just _)
theorem rd_Node_block_fin (s:Node):rd (cNode s) 204 33=cCkpt s.block.fin:=(rd_in (by rw[len_cBlock];decide)).trans (rd_Block_fin _)
theorem get_Node_up (s:Node):(cNode s)[238]? = some (.v (.int .i64 s.up)):=(get_skip rfl (len_cBlock _)).trans (rfl)
theorem up_Node_up (s:Node) (x:Int):upd (cNode s) 238 ([.v (.int .i64 x)]) 239=cNode { s with up:=x }:=(up_skip rfl rfl (len_cBlock _)).trans (appR (up_head (len_cInt _)))
theorem get_Node_status (s:Node):(cNode s)[239]? = some (.v (.int .i64 s.status)):=(get_skip rfl (len_cBlock _)).trans ((get_skip rfl (len_cInt _)).trans (rfl))
theorem up_Node_status (s:Node) (x:Int):upd (cNode s) 239 ([.v (.int .i64 x)]) 240=cNode { s with status:=x }:=(up_skip rfl rfl (len_cBlock _)).trans (appR ((up_skip rfl rfl (len_cInt _)).trans (appR (up_last (len_cInt _)))))
def zNode:Node:=⟨zBlock,0,0⟩
def vNode:List Value:=vBlock ++ ([.int .i64 0] ++ ([.int .i64 0]))
theorem vNode_c:vNode.map AV.v=cNode zNode:=by simp only[vNode,List.map_append,List.map_cons,List.map_nil,vRoot_c,vWide_c,vBlock_c];rfl
def lNode:List Bool:=lBlock ++ ([true] ++ ([true]))
theorem leafy_Node (a b:Node):Leafy lNode (cNode a) (cNode b):=(leafy_app (leafy_Block _ _) (leafy_app (show Leafy [true] [_] [_] from ⟨rfl,trivial⟩) (show Leafy [true] [_] [_] from ⟨rfl,trivial⟩)))
theorem rd_Node_all (s:Node):rd (cNode s) 0 240=cNode s:=rd_last (len_cNode _)
theorem up_Node_all (s x:Node):upd (cNode s) 0 (cNode x) 240=cNode x:=up_last (len_cNode _)
def csNode (l:List Node):List AV:=l.flatMap cNode
@[simp] theorem len_csNode (l:List (Node)):(csNode l).length=l.length * 240:=by
 induction l with
 | nil=>rfl
 | cons x l ih=>simp only[csNode,List.flatMap_cons,List.length_append,len_cNode,List.length_cons] at *;omega
theorem flat_csNode (l:List (Node)):∀ x∈csNode l,Flat x:=by
 intro x hx
 obtain⟨y,_,hy⟩:=List.mem_flatMap.1 hx
 exact flat_cNode y x hy
theorem rd_csNode (l:List (Node)) (i:Nat) (h:i < l.length):rd (csNode l) (i * 240) 240=cNode l[i]:=rd_flatMap cNode 240 (len_cNode) l i h
structure Tree where
 nodes:List Node
def cTree (s:Tree):List AV:=[.sl s.nodes.length (csNode s.nodes)]
@[simp] theorem len_cTree (s:Tree):(cTree s).length=1:=by simp[cTree]
theorem flat_cTree (s:Tree):∀ x∈cTree s,Flat x:=by
 intro x hx
 simp only[cTree,List.mem_append,List.mem_singleton] at hx
 (subst hx;exact .sl _ _ (flat_csNode _))
theorem get_Tree_nodes (s:Tree):(cTree s)[0]? = some (.sl s.nodes.length (csNode s.nodes)):=rfl
theorem rd_Tree_all (s:Tree):rd (cTree s) 0 1=cTree s:=rd_last (len_cTree _)
theorem up_Tree_all (s x:Tree):upd (cTree s) 0 (cTree x) 1=cTree x:=up_last (len_cTree _)
end Go.Ab
end
section
namespace Go.Ab
open Classical
def anE (e sz by_:Nat) (v:Option (Nat × List AV)):Option (Option (Nat × Nat) × Ent) :=
 match v with
 | some (m,news)=>if news.length=m * sz∧m * by_≤140737488355328∧m≤maxLen then some (none,.row e sz m news) else none
 | none=>none
def aoE (e sz by_:Nat) (o:Option Ent) (s g:Nat) (v:Option (Nat × List AV)):Option (Option (Nat × Nat) × Ent) :=
 match o,v with
 | some (.row e' sz' n cs),some (m,news)=>if news.length=m * sz∧e'=e∧sz'=sz∧(n+m) * by_≤140737488355328∧n+m≤maxLen then some (some (s,g),.row e sz (n+m) (cs ++ news)) else none
 | _,_=>none
def acE (e sz by_ n:Nat) (cs:List AV) (v:Option (Nat × List AV)):Option (Option (Nat × Nat) × Ent) :=
 match v with
 | some (m,news)=>if news.length=m * sz∧cs.length=n * sz∧(n=0∨0 < m)∧(n+m) * by_≤140737488355328∧n+m≤maxLen then some (none,.row e sz (n+m) (cs ++ news)) else none
 | none=>none
section
variable {P:Program} {st:St} {T e sz by_:Nat}
theorem app_nil (hs:slInfo P T=some (e,sz,by_)) (x:AV):appendA P st T (.v (.slice none 0 0)) x=anE e sz by_ (sliceView st x):=by
 simp only[appendA,hs,anE]
 cases sliceView st x with
 | none=>rfl
 | some v =>
   obtain⟨m,news⟩:=v
   by_cases h1:news.length=m * sz<;>simp[h1]
theorem app_own (hs:slInfo P T=some (e,sz,by_)) (s g:Nat) (x:AV):appendA P st T (.own s g) x=aoE e sz by_ (st.heap s g) s g (sliceView st x):=by
 simp only[appendA,hs,aoE]
 cases sliceView st x with
 | none=>cases st.heap s g with
   | none=>rfl
   | some o=>cases o<;>rfl
 | some v =>
   obtain⟨m,news⟩:=v
   cases st.heap s g with
   | none=>by_cases h1:news.length=m * sz<;>simp[h1]
   | some o =>
     cases o with
     | row a b n cs=>by_cases h1:news.length=m * sz<;>simp[h1]
     | _=>by_cases h1:news.length=m * sz<;>simp[h1]
theorem app_cl (hs:slInfo P T=some (e,sz,by_)) (n:Nat) (cs:List AV) (x:AV):appendA P st T (.cl n cs) x=acE e sz by_ n cs (sliceView st x):=by
 simp only[appendA,hs,acE]
 cases sliceView st x with
 | none=>rfl
 | some v =>
   obtain⟨m,news⟩:=v
   by_cases h1:news.length=m * sz<;>simp[h1]
end
def ioE (e sz:Nat) (o:Option Ent) (s g:Nat) (i:Int):Option AV :=
 match o with
 | some (.row e' sz' n _)=>if 0≤i∧i < n∧e'=e∧sz'=sz then some (.ptr s g (i.toNat * sz)) else none
 | _=>none
theorem idx_own {P:Program} {st:St} {T e sz by_:Nat} (hn:arrInfo P T=none) (hs:slInfo P T=some (e,sz,by_)) (s g:Nat) (k:IntKind) (i:Int):indexAddrA P st T (.own s g) (.v (.int k i))=ioE e sz (st.heap s g) s g i:=by
 simp only[indexAddrA,hn,hs,ioE]
 cases st.heap s g with
 | none=>rfl
 | some e=>cases e<;>rfl
theorem ioE_row (e sz n:Nat) (cs:List AV) (s g:Nat) (i:Int) (h0:0≤i) (h1:i < n):ioE e sz (some (.row e sz n cs)) s g i=some (.ptr s g (i.toNat * sz)):=by
 simp[ioE,h0,h1]
def elV {α:Type} (x:AV) (k:Value→Option α) (fb:Option α):Option α :=
 match x with
 | .v y=>if y.oneCell'=true then k y else fb
 | _=>fb
theorem elV_int {α:Type} (kk:IntKind) (n:Int) (k:Value→Option α) (fb:Option α):elV (.v (.int kk n)) k fb=k (.int kk n):=rfl
theorem elV_bool {α:Type} (n:Bool) (k:Value→Option α) (fb:Option α):elV (.v (.bool n)) k fb=k (.bool n):=rfl
@[congr] theorem elV_congr {α:Type} {x y:AV} {k:Value→Option α} {fb:Option α} (h:x=y):elV x k fb=elV y k fb:=by rw[h]
theorem ev_bs1E [Ext] {P:Program} {S e by_:Nat} {z:Value} (hs:slInfo P S=some (e,1,by_)) (hz:zeroL P e=some [z]) {call:Nat→List AV→Option AV} {ops:Array Oper} {st:St} {T:Nat} {pos:String} {aft:Array Edge} (d:Nat) (x:Operand) :
 evOp P call ops ⟨some d,.buildSlice S 1 #[(0,x)],T,pos,aft,none⟩ st=elV (st.ev x) (fun y=>some ((st.new d (.row e 1 1 [.v y])).put (some d) (.own d (st.cnt d)))) (evOp P call ops ⟨some d,.buildSlice S 1 #[(0,x)],T,pos,aft,none⟩ st):=by
 unfold elV
 split
 ·rename_i y h
  split
  ·rename_i hy
   rw[ev_buildSlice,hs]
   simp[hz,bnd,h,AV.stor,hy,fillA,AV.cells]
  ·rfl
 ·rfl
def elA {α:Type} (z:Nat) (x:AV) (k:List AV→Option α) (fb:Option α):Option α :=
 match x with
 | .agg cs=>if cs.length=z then k cs else fb
 | _=>fb
theorem elA_agg {α:Type} (z:Nat) (cs:List AV) (k:List AV→Option α) (fb:Option α) (h:cs.length=z):elA z (.agg cs) k fb=k cs:=if_pos h
@[congr] theorem elA_congr {α:Type} {z:Nat} {x y:AV} {k:List AV→Option α} {fb:Option α} (h:x=y):elA z x k fb=elA z y k fb:=by rw[h]
theorem ev_bsAE [Ext] {P:Program} {S e sz by_:Nat} {z:List Value} (hs:slInfo P S=some (e,sz,by_)) (hz:zeroL P e=some z) (hl:z.length=sz) (hm:sz≤2 ^ 24) {call:Nat→List AV→Option AV} {ops:Array Oper} {st:St} {T:Nat} {pos:String} {aft:Array Edge} (d:Nat) (x:Operand) :
 evOp P call ops ⟨some d,.buildSlice S 1 #[(0,x)],T,pos,aft,none⟩ st=elA sz (st.ev x) (fun cs=>some ((st.new d (.row e sz 1 cs)).put (some d) (.own d (st.cnt d)))) (evOp P call ops ⟨some d,.buildSlice S 1 #[(0,x)],T,pos,aft,none⟩ st):=by
 unfold elA
 split
 ·rename_i cs h
  split
  ·rename_i hc
   have h2:((List.range 1).flatMap fun _=>z.map AV.v)=z.map AV.v:=by simp[List.range,List.range.loop]
   have hzl:(z.map AV.v).length=sz:=by simpa using hl
   rw[ev_buildSlice,hs]
   simp only[hz,bnd,List.toList_toArray,List.all_cons,List.all_nil,h,AV.stor,Bool.and_self,List.map_cons,List.map_nil,fillA,AV.cells,hc,Nat.zero_mul,Nat.zero_add,List.take_zero,List.nil_append]
   rw[h2,if_pos (by simpa using hm),if_pos (by simp[hzl])]
   rw[List.drop_of_length_le (by rw[hzl];exact Nat.le_refl _),List.append_nil]
  ·rfl
 ·rfl
end Go.Ab
end
section
namespace Go.Ab
open Classical
variable [Ext]
@[congr] theorem evG_congr {P:Program} {bi:Bool} {c:Code} {s t:St} (h:s=t):evG P bi c s=evG P bi c t:=by rw[h]
theorem evG_condB {P:Program} {bi:Bool} (c:Operand) (a b:Code) (st:St):evG P bi (.cond c a b) st=onB (st.ev c) fun t=>if t=true then evG P bi a st else evG P bi b st:=by
 cases h:st.ev c with
 | v x =>
   cases x with
   | bool t=>exact evG_cond P c a b st h
   | _ =>
     apply Option.ext
     intro r
     rw[evG_iff]
     constructor
     ·rintro⟨n,m,h'⟩
      cases m with
      | zero=>simp[evC] at h'
      | succ m=>simp[evC,h] at h'
     ·intro h';simp[onB] at h'
 | _ =>
   apply Option.ext
   intro r
   rw[evG_iff]
   constructor
   ·rintro⟨n,m,h'⟩
    cases m with
    | zero=>simp[evC] at h'
    | succ m=>simp[evC,h] at h'
   ·intro h';simp[onB] at h'
section
variable {P:Program} {call:Nat→List AV→Option AV} {inl:Nat→List AV→St→Option (AV × St)} {ops:Array Oper} {st:St}
theorem evOpsI_nil:evOpsI P true call inl ops [] st=some st:=rfl
theorem evOpsI_cons (o:Oper) (l:List Oper):evOpsI P true call inl ops (o :: l) st=bnd (evOpI P true call inl ops o st) (evOpsI P true call inl ops l):=rfl
@[congr] theorem evOpI_congr {o:Oper} {s t:St} (h:s=t):evOpI P true call inl ops o s=evOpI P true call inl ops o t:=by rw[h]
theorem evOpI_op {o:Oper} (h:isInl o=none):evOpI P true call inl ops o st=evOp P call ops o st:=by
 unfold evOpI
 rw[if_pos rfl,h]
theorem evOpI_inl {d:Option Nat} {g:Nat} {args:Array Operand} {ats:Array Nat} {T:Nat} {pos:String} {aft:Array Edge} (h:Ext.inl g d=true) :
 evOpI P true call inl ops ⟨d,.call ⟨.value (.func g),args,ats⟩,T,pos,aft,none⟩ st=bnd (inl g (args.toList.map st.ev) st) fun r=>some ((st.back r.2).put d r.1):=by
 have e:isInl ⟨d,.call ⟨.value (.func g),args,ats⟩,T,pos,aft,none⟩=some (g,args.toList):=by
  unfold isInl
  simp only
  rw[if_pos h]
 unfold evOpI
 rw[if_pos rfl,e]
 simp only[gv,if_true]
 cases inl g (args.toList.map st.ev) st<;>rfl
end
theorem back_env (st s:St):(st.back s).env=st.env:=rfl
theorem back_heap (st s:St):(st.back s).heap=s.heap:=rfl
theorem back_cnt (st s:St):(st.back s).cnt=s.cnt:=rfl
theorem endI_one {P:Program} {fn:Func} {st:St} {e:Ex} {r:ResultVar} {x:AV} (he:e=.ret∨e=.normal) (hr:fn.results.toList=[r]) (h1:resVal P st r=some x):endI P fn (e,st)=some (x,st):=by
 have h:finishI P fn st=some x:=by
  unfold finishI
  rw[hr]
  exact h1
 rcases he with rfl | rfl<;>simp only[endI,h,Option.map_some]
theorem loop_mainG {P:Program} {bi:Bool} {b:Code} (Inv:Nat→St→Prop) (Q:Ex→St→Prop)
 (step:∀ n st,Inv n st→∃ e st',evG P bi b st=some (e,st')∧((e=.normal∧∃ m,m < n∧Inv m st')∨(e≠.normal∧Q e st'))):∀ n st,Inv n st→∃ e st',evG P bi (.loop b) st=some (e,st')∧e≠.normal∧Q e st':=by
 intro n
 induction n using Nat.strongRecOn with
 | _ n ih =>
   intro st h
   obtain⟨e,s1,h1,h2⟩:=step n st h
   rw[evG_loop,h1]
   rcases h2 with ⟨rfl,m,hm,hi⟩ | ⟨hne,hq⟩
   ·exact ih m hm s1 hi
   ·refine⟨e,s1, ?_,hne,hq⟩
    cases e with
    | normal=>exact absurd rfl hne
    | _=>rfl
theorem use_loopG {P:Program} {bi:Bool} {b:Code} {st:St} {β:Type} {k:Ex × St→Option β} {R:β→Prop} (Inv:Nat→St→Prop) (Q:Ex→St→Prop) (n:Nat)
 (step:∀ n st,Inv n st→∃ e st',evG P bi b st=some (e,st')∧((e=.normal∧∃ m,m < n∧Inv m st')∨(e≠.normal∧Q e st')))
 (start:Inv n st) (rest:∀ e st',Q e st'→∃ r,k (e,st')=some r∧R r):∃ r,bnd (evG P bi (.loop b) st) k=some r∧R r:=by
 obtain⟨e,s1,h1,h2,h3⟩:=loop_mainG Inv Q step n st start
 rw[h1];exact rest e s1 h3
theorem go_onG {P:Program} {bi:Bool} {b:Code} {st st':St} {n:Nat} {Inv:Nat→St→Prop} {Q:Ex→St→Prop} (h:evG P bi b st=some (.normal,st')) (m:Nat) (hm:m < n) (hi:Inv m st') :
 ∃ e st',evG P bi b st=some (e,st')∧((e=.normal∧∃ m,m < n∧Inv m st')∨(e≠.normal∧Q e st')):=⟨_,_,h,.inl ⟨rfl,m,hm,hi⟩⟩
theorem go_outG {P:Program} {bi:Bool} {b:Code} {st st':St} {e:Ex} {n:Nat} {Inv:Nat→St→Prop} {Q:Ex→St→Prop} (h:evG P bi b st=some (e,st')) (he:e≠.normal) (hq:Q e st') :
 ∃ e st',evG P bi b st=some (e,st')∧((e=.normal∧∃ m,m < n∧Inv m st')∨(e≠.normal∧Q e st')):=⟨_,_,h,.inr ⟨he,hq⟩⟩
theorem evG_regionD {P:Program} {id:Nat} {ops:Array Oper} {d:Bool} {st:St} {l:List (Nat × Nat)} (h:Ext.dyn id ops.size (firstDst ops)=l) :
 evG P true (.region id ops d) st=bnd (evOpsI P true (callL P) (inlL P) ops ops.toList st) fun s=>if SwapsOk ops s l then some (.normal,s) else none:=by
 rw[evG_region]
 congr 1
 funext s
 rw[h]
 by_cases hf:SwapsOk ops s l
 ·rw[if_pos hf,if_neg]
  rintro⟨_,hn⟩
  exact hn hf
 ·rw[if_neg hf,if_pos ⟨rfl,hf⟩]
theorem swaps_nil (ops:Array Oper) (s:St):SwapsOk ops s []=True:=rfl
theorem swaps_cons (ops:Array Oper) (s:St) (p:Nat × Nat) (l:List (Nat × Nat)):SwapsOk ops s (p :: l)=(SwapAt ops s p∧SwapsOk ops s l):=rfl
def swapL (s:St) (x y:Option (List Nat)):Prop:=match x,y with | some aS,some bs=>farAll s aS bs | _,_=>False
theorem swapAt_eq (ops:Array Oper) (s:St) (i j:Nat):SwapAt ops s (i,j)=swapL s ((ops[i]?).bind keyRegs) ((ops[j]?).bind keyRegs):=rfl
theorem swapL_11 (s:St) (a b:Nat):swapL s (some [a]) (some [b])=farApart (s.env a) (s.env b):=by simp[swapL,farAll]
theorem swapL_21 (s:St) (a a' b:Nat):swapL s (some [a,a']) (some [b])=(farApart (s.env a) (s.env b)∧farApart (s.env a') (s.env b)):=by simp[swapL,farAll]
@[congr] theorem farApart_congr {x y x' y':AV} (h:x=x') (h':y=y'):farApart x y=farApart x' y':=by rw[h,h']
theorem farApart_pp (s g o s' g' o':Nat):farApart (.ptr s g o) (.ptr s' g' o')=((s,g)≠(s',g')):=rfl
theorem farApart_po (s g o s' g':Nat):farApart (.ptr s g o) (.own s' g')=((s,g)≠(s',g')):=rfl
theorem farApart_op (s g s' g' o':Nat):farApart (.own s g) (.ptr s' g' o')=((s,g)≠(s',g')):=rfl
theorem farApart_vp (x:Value) (s g o:Nat):farApart (.v x) (.ptr s g o)=True:=rfl
theorem farApart_pv (x:Value) (s g o:Nat):farApart (.ptr s g o) (.v x)=True:=rfl
theorem farApart_os (s g n:Nat) (cs:List AV):farApart (.own s g) (.sl n cs)=True:=rfl
theorem farApart_so (s g n:Nat) (cs:List AV):farApart (.sl n cs) (.own s g)=True:=rfl
theorem farApart_sp (s g o n:Nat) (cs:List AV):farApart (.sl n cs) (.ptr s g o)=True:=rfl
theorem farApart_ps (s g o n:Nat) (cs:List AV):farApart (.ptr s g o) (.sl n cs)=True:=rfl
theorem farApart_ss (n m:Nat) (cs ds:List AV):farApart (.sl n cs) (.sl m ds)=True:=rfl
theorem farApart_ov (s g:Nat) (x:Value):farApart (.own s g) (.v x)=True:=rfl
theorem farApart_vo (s g:Nat) (x:Value):farApart (.v x) (.own s g)=True:=rfl
theorem farApart_vs (x:Value) (n:Nat) (cs:List AV):farApart (.v x) (.sl n cs)=True:=rfl
theorem farApart_sv (x:Value) (n:Nat) (cs:List AV):farApart (.sl n cs) (.v x)=True:=rfl
def minA (x y:AV):Option AV :=
 match x,y with
 | .v (.int k a),.v (.int _ b)=>some (.v (.int k (if b < a then b else a)))
 | _,_=>none
def maxA (x y:AV):Option AV :=
 match x,y with
 | .v (.int k a),.v (.int _ b)=>some (.v (.int k (if b > a then b else a)))
 | _,_=>none
theorem minA_int (k k':IntKind) (a b:Int):minA (.v (.int k a)) (.v (.int k' b))=some (.v (.int k (if b < a then b else a))):=rfl
theorem maxA_int (k k':IntKind) (a b:Int):maxA (.v (.int k a)) (.v (.int k' b))=some (.v (.int k (if a < b then b else a))):=rfl
@[congr] theorem minA_congr {x y x' y':AV} (h:x=x') (h':y=y'):minA x y=minA x' y':=by rw[h,h']
@[congr] theorem maxA_congr {x y x' y':AV} (h:x=x') (h':y=y'):maxA x y=maxA x' y':=by rw[h,h']
theorem ev_min {P:Program} {call:Nat→List AV→Option AV} {ops:Array Oper} {st:St} {d:Option Nat} {T:Nat} {pos:String} {aft:Array Edge} (x y:Operand) (ats:Array Nat) :
 evOp P call ops ⟨d,.call ⟨.builtin .min,#[x,y],ats⟩,T,pos,aft,none⟩ st=bnd (minA (st.ev x) (st.ev y)) fun v=>some (st.put d v):=by
 rw[evOp_none]
 simp only[opEff,callEff,minA]
 cases st.ev x with
 | v a=>cases a with
   | int k a=>cases st.ev y with
     | v b=>cases b<;>rfl
     | _=>rfl
   | _=>rfl
 | _=>rfl
theorem ev_max {P:Program} {call:Nat→List AV→Option AV} {ops:Array Oper} {st:St} {d:Option Nat} {T:Nat} {pos:String} {aft:Array Edge} (x y:Operand) (ats:Array Nat) :
 evOp P call ops ⟨d,.call ⟨.builtin .max,#[x,y],ats⟩,T,pos,aft,none⟩ st=bnd (maxA (st.ev x) (st.ev y)) fun v=>some (st.put d v):=by
 rw[evOp_none]
 simp only[opEff,callEff,maxA]
 cases st.ev x with
 | v a=>cases a with
   | int k a=>cases st.ev y with
     | v b=>cases b<;>rfl
     | _=>rfl
   | _=>rfl
 | _=>rfl
noncomputable def mvE (call:Nat→List AV→Option AV) (g:Nat) (rest:List AV) (s k d c:Nat) (o:Option Ent):Option Eff :=
 match o with
 | some (.row e sz n cs) =>
   if (∀ c∈cs,Flat c)∧∀ x∈rest,Flat x then
    match call g (.uniq e sz n cs :: rest) with
    | some (.uniq e' sz' n' cs')=>some { dst:=some d,val:=.own d c,upd:=some (s,k,none),new:=some (d,[.row e' sz' n' cs'])}
    | some (.tup [.uniq e' sz' n' cs'])=>some { dst:=some d,val:=.tup [],upd:=some (s,k,some (.row e' sz' n' cs'))}
    | _=>none
   else none
 | _=>none
theorem callMv_own (call:Nat→List AV→Option AV) (g s k d:Nat) (rest:List AV) (st:St):callMv call g (.own s k :: rest) st (some d)=mvE call g rest s k d (st.cnt d) (st.heap s k):=by
 unfold callMv mvE
 simp only
 cases st.heap s k with
 | none=>rfl
 | some o =>
   cases o with
   | row e sz n cs =>
     simp only
     by_cases hc:(∀ c∈cs,Flat c)∧∀ x∈rest,Flat x
     ·simp only[if_pos hc]
      cases call g (.uniq e sz n cs :: rest) with
      | none=>rfl
      | some r =>
        cases r with
        | tup vs =>
          cases vs with
          | nil=>rfl
          | cons x xs =>
            cases x with
            | uniq _ _ _ _=>cases xs<;>rfl
            | _=>rfl
        | _=>rfl
     ·simp only[if_neg hc]
   | _=>rfl
theorem mvE_uniq {call:Nat→List AV→Option AV} {g:Nat} {rest:List AV} {s k d c e sz n e' sz' n':Nat} {cs cs':List AV} (hf:∀ c∈cs,Flat c) (hr:∀ x∈rest,Flat x) (hc:call g (.uniq e sz n cs :: rest)=some (.uniq e' sz' n' cs')) :
 mvE call g rest s k d c (some (.row e sz n cs))=some { dst:=some d,val:=.own d c,upd:=some (s,k,none),new:=some (d,[.row e' sz' n' cs'])}:=by
 unfold mvE
 simp only
 rw[if_pos ⟨hf,hr⟩,hc]
@[congr] theorem mvE_congr {call:Nat→List AV→Option AV} {g:Nat} {rest:List AV} {s k d c c':Nat} {o o':Option Ent} (h:c=c') (h':o=o'):mvE call g rest s k d c o=mvE call g rest s k d c' o':=by rw[h,h']
theorem callMv_nil {call:Nat→List AV→Option AV} {g d:Nat} {rest:List AV} {st:St} {e sz n:Nat} {cs:List AV} (hr:∀ x∈rest,Flat x) (hc:call g (.v (.slice none 0 0) :: rest)=some (.uniq e sz n cs)) :
 callMv call g (.v (.slice none 0 0) :: rest) st (some d)=some { dst:=some d,val:=.own d (st.cnt d),new:=some (d,[.row e sz n cs])}:=by
 have hf:∀ x∈AV.v (.slice none 0 0) :: rest,Flat x:=by
  intro x hx
  rcases List.mem_cons.1 hx with rfl | hx
  ·exact .v _
  ·exact hr x hx
 have hnf:¬ Flat (.uniq e sz n cs):=by intro h;cases h
 unfold callMv
 simp only[if_pos hf]
 unfold callFn
 rw[if_pos hf,hc]
 simp only[bnd]
 unfold putRes
 rw[if_neg hnf]
 rfl
theorem endM_own {P:Program} {fn:Func} {st:St} {e:Ex} {r:ResultVar} {s g ee sz n:Nat} {cs:List AV} (he:e=.ret∨e=.normal) (hr:fn.results.toList=[r]) (h1:resVal P st r=some (.own s g)) (h2:st.heap s g=some (.row ee sz n cs)) (hm:∀ c∈cs,MemFree c) :
 endM P fn (e,st)=some (.uniq ee sz n cs):=by
 have h:finishM P fn st=some (.uniq ee sz n cs):=by
  unfold finishM
  rw[hr]
  simp only[h1,h2]
  rw[if_pos hm]
 rcases he with rfl | rfl<;>exact h
theorem initM_env0 (e sz n:Nat) (cs rest:List AV):(St.initM e sz n cs rest).env 0=.own 0 0:=rfl
theorem initM_env (e sz n:Nat) (cs rest:List AV) (t:Nat):(St.initM e sz n cs rest).env (t+1)=(rest[t]?).getD (.v undef):=rfl
theorem initM_heap (e sz n:Nat) (cs rest:List AV):(St.initM e sz n cs rest).heap 0 0=some (.row e sz n cs):=rfl
theorem initM_cnt0 (e sz n:Nat) (cs rest:List AV):(St.initM e sz n cs rest).cnt 0=1:=rfl
theorem initM_cnt (e sz n:Nat) (cs rest:List AV) (s:Nat) (h:s≠0):(St.initM e sz n cs rest).cnt s=0:=if_neg h
end Go.Ab
end
section
namespace Go.Ab
open Classical
variable [Ext]
theorem use_midX {P:Program} {a:Code} {st:St} {β:Type} {k:Ex × St→Option β} {R:β→Prop} (Q:Ex→St→Prop) (h:∃ e st',evL P a st=some (e,st')∧Q e st')
 (rest:∀ e st',Q e st'→∃ r,k (e,st')=some r∧R r):∃ r,bnd (evL P a st) k=some r∧R r:=by
 obtain⟨e,s1,h1,h2⟩:=h
 rw[h1];exact rest e s1 h2
theorem use_midGX {P:Program} {bi:Bool} {a:Code} {st:St} {β:Type} {k:Ex × St→Option β} {R:β→Prop} (Q:Ex→St→Prop) (h:∃ e st',evG P bi a st=some (e,st')∧Q e st')
 (rest:∀ e st',Q e st'→∃ r,k (e,st')=some r∧R r):∃ r,bnd (evG P bi a st) k=some r∧R r:=by
 obtain⟨e,s1,h1,h2⟩:=h
 rw[h1];exact rest e s1 h2
theorem ex_eq {β:Type} {x:Option β} {v:β} (h:∃ r,x=some r∧r=v):x=some v:=by
 obtain⟨r,h,rfl⟩:=h;exact h
theorem evG_regionX {P:Program} {id:Nat} {ops:Array Oper} {d:Bool} {st:St} :
 evG P true (.region id ops d) st=bnd (evOpsI P true (callL P) (inlL P) ops ops.toList st) fun s=>if SwapsOk ops s (Ext.dyn id ops.size (firstDst ops)) then some (.normal,s) else none:=evG_regionD rfl
theorem firstDst_l (o:Oper) (l:List Oper):firstDst (o :: l).toArray=o.dst:=by simp[firstDst]
section
variable {P:Program} {call:Nat→List AV→Option AV} {inl:Nat→List AV→St→Option (AV × St)} {ops:Array Oper} {st:St} {d:Option Nat} {T:Nat} {pos:String} {aft:Array Edge} {g:Option (Nat × Bool)}
theorem oi_move (x:Operand):evOpI P true call inl ops ⟨d,.move x,T,pos,aft,g⟩ st=evOp P call ops ⟨d,.move x,T,pos,aft,g⟩ st:=rfl
theorem oi_assign (x:Operand):evOpI P true call inl ops ⟨d,.assign x,T,pos,aft,g⟩ st=evOp P call ops ⟨d,.assign x,T,pos,aft,g⟩ st:=rfl
theorem oi_pick (x y z:Operand):evOpI P true call inl ops ⟨d,.pick x y z,T,pos,aft,g⟩ st=evOp P call ops ⟨d,.pick x y z,T,pos,aft,g⟩ st:=rfl
theorem oi_alloc (S:Nat):evOpI P true call inl ops ⟨d,.alloc S,T,pos,aft,g⟩ st=evOp P call ops ⟨d,.alloc S,T,pos,aft,g⟩ st:=rfl
theorem oi_box (S:Nat) (x:Operand):evOpI P true call inl ops ⟨d,.box S x,T,pos,aft,g⟩ st=evOp P call ops ⟨d,.box S x,T,pos,aft,g⟩ st:=rfl
theorem oi_build (S:Nat) (x:Array (Nat × Operand)):evOpI P true call inl ops ⟨d,.build S x,T,pos,aft,g⟩ st=evOp P call ops ⟨d,.build S x,T,pos,aft,g⟩ st:=rfl
theorem oi_buildSlice (S n:Nat) (x:Array (Nat × Operand)):evOpI P true call inl ops ⟨d,.buildSlice S n x,T,pos,aft,g⟩ st=evOp P call ops ⟨d,.buildSlice S n x,T,pos,aft,g⟩ st:=rfl
theorem oi_makeSlice (S:Nat) (x y:Operand):evOpI P true call inl ops ⟨d,.makeSlice S x y,T,pos,aft,g⟩ st=evOp P call ops ⟨d,.makeSlice S x y,T,pos,aft,g⟩ st:=rfl
theorem oi_makeFunc (f:Fn) (x y:Array Operand):evOpI P true call inl ops ⟨d,.makeFunc f x y,T,pos,aft,g⟩ st=evOp P call ops ⟨d,.makeFunc f x y,T,pos,aft,g⟩ st:=rfl
theorem oi_load (S:Nat) (x:Operand):evOpI P true call inl ops ⟨d,.load S x,T,pos,aft,g⟩ st=evOp P call ops ⟨d,.load S x,T,pos,aft,g⟩ st:=rfl
theorem oi_store (S:Nat) (x y:Operand):evOpI P true call inl ops ⟨d,.store S x y,T,pos,aft,g⟩ st=evOp P call ops ⟨d,.store S x y,T,pos,aft,g⟩ st:=rfl
theorem oi_binOp (o:BinOp) (S S':Nat) (x y:Operand):evOpI P true call inl ops ⟨d,.binOp o S x y S',T,pos,aft,g⟩ st=evOp P call ops ⟨d,.binOp o S x y S',T,pos,aft,g⟩ st:=rfl
theorem oi_unOp (o:UnOp) (S:Nat) (x:Operand):evOpI P true call inl ops ⟨d,.unOp o S x,T,pos,aft,g⟩ st=evOp P call ops ⟨d,.unOp o S x,T,pos,aft,g⟩ st:=rfl
theorem oi_fieldAddr (S f:Nat) (x:Operand):evOpI P true call inl ops ⟨d,.fieldAddr S x f,T,pos,aft,g⟩ st=evOp P call ops ⟨d,.fieldAddr S x f,T,pos,aft,g⟩ st:=rfl
theorem oi_field (S f:Nat) (x:Operand):evOpI P true call inl ops ⟨d,.field S x f,T,pos,aft,g⟩ st=evOp P call ops ⟨d,.field S x f,T,pos,aft,g⟩ st:=rfl
theorem oi_indexAddr (S:Nat) (x y:Operand):evOpI P true call inl ops ⟨d,.indexAddr S x y,T,pos,aft,g⟩ st=evOp P call ops ⟨d,.indexAddr S x y,T,pos,aft,g⟩ st:=rfl
theorem oi_convert (S S':Nat) (x:Operand):evOpI P true call inl ops ⟨d,.convert S S' x,T,pos,aft,g⟩ st=evOp P call ops ⟨d,.convert S S' x,T,pos,aft,g⟩ st:=rfl
theorem oi_extract (x:Operand) (i:Nat):evOpI P true call inl ops ⟨d,.extract x i,T,pos,aft,g⟩ st=evOp P call ops ⟨d,.extract x i,T,pos,aft,g⟩ st:=rfl
theorem oi_slice (S:Nat) (x:Operand) (a b c:Option Operand):evOpI P true call inl ops ⟨d,.slice S x a b c,T,pos,aft,g⟩ st=evOp P call ops ⟨d,.slice S x a b c,T,pos,aft,g⟩ st:=rfl
theorem oi_builtin (b:Builtin) (x:Array Operand) (y:Array Nat):evOpI P true call inl ops ⟨d,.call ⟨.builtin b,x,y⟩,T,pos,aft,g⟩ st=evOp P call ops ⟨d,.call ⟨.builtin b,x,y⟩,T,pos,aft,g⟩ st:=rfl
theorem oi_tmp (t:Nat) (x:Array Operand) (y:Array Nat):evOpI P true call inl ops ⟨d,.call ⟨.value (.tmp t),x,y⟩,T,pos,aft,g⟩ st=evOp P call ops ⟨d,.call ⟨.value (.tmp t),x,y⟩,T,pos,aft,g⟩ st:=rfl
theorem oi_call (f:Nat) (x:Array Operand) (y:Array Nat) (h:Ext.inl f d=false):evOpI P true call inl ops ⟨d,.call ⟨.value (.func f),x,y⟩,T,pos,aft,g⟩ st=evOp P call ops ⟨d,.call ⟨.value (.func f),x,y⟩,T,pos,aft,g⟩ st:=evOpI_op (by unfold isInl;simp[h])
theorem oi_inl (f:Nat) (x:Array Operand) (y:Array Nat) (h:Ext.inl f d=true):evOpI P true call inl ops ⟨d,.call ⟨.value (.func f),x,y⟩,T,pos,aft,none⟩ st=bnd (inl f (x.toList.map st.ev) st) fun r=>some ((st.back r.2).put d r.1):=evOpI_inl h
theorem kr_load (S a:Nat):keyRegs ⟨d,.load S (.tmp a),T,pos,aft,none⟩=some [a]:=rfl
theorem kr_store (S a:Nat) (x:Operand):keyRegs ⟨d,.store S (.tmp a) x,T,pos,aft,none⟩=some [a]:=rfl
theorem kr_index (S a:Nat) (x:Operand):keyRegs ⟨d,.indexAddr S (.tmp a) x,T,pos,aft,none⟩=some [a]:=rfl
theorem kr_slice (S a:Nat) (x y z:Option Operand):keyRegs ⟨d,.slice S (.tmp a) x y z,T,pos,aft,none⟩=some [a]:=rfl
theorem kr_len (a:Nat) (y:Array Nat):keyRegs ⟨d,.call ⟨.builtin .len,#[.tmp a],y⟩,T,pos,aft,none⟩=some [a]:=rfl
theorem kr_append (a b:Nat) (y:Array Nat):keyRegs ⟨d,.call ⟨.builtin .append,#[.tmp a,.tmp b],y⟩,T,pos,aft,none⟩=some [a,b]:=rfl
theorem kr_call2 (f a:Nat) (b:Operand) (y:Array Nat) (h:Ext.mv f=true):keyRegs ⟨d,.call ⟨.value (.func f),#[.tmp a,b],y⟩,T,pos,aft,none⟩=some [a]:=by simp[keyRegs,h]
end
end Go.Ab
end
