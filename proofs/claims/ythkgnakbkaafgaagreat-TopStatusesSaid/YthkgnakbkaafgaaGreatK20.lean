/-
  Part 20 of the proof: an evaluator of programs, its soundness, and what functions of this program compute.
-/
import Derived.Test.YthkgnakbkaafgaaGreatK6
import Derived.Test.YthkgnakbkaafgaaGreatK7
import Derived.WalkKit
import Derived.Maps.OwnSet
import Derived.Maps.AppendAt
import Derived.Maps.RangeWalk
import Derived.Sort.OwnSortedInts
import Derived.Shelf.SortM.Plain
import Derived.Shelf.SortM.SortNone
import Derived.Ground.SlgmProg
import Derived.Shelf.Slices.Reverse
import Derived.KernelRfl
import Derived.Test.YthkgnakbkaafgaaGreatK4
import Derived.Laws.CopyRow
import Derived.Lib.Overlaps
import Derived.Lib.AppendZerosOnto
import Derived.Laws.Externs
import Derived.Deep.RegionLaw
import Derived.Laws.AppendOwn
import Derived.Test.YthkgnakbkaafgaaGreatK16
import Derived.Test.YthkgnakbkaafgaaGreatK19
import Derived.Test.YthkgnakbkaafgaaGreatK15
import Derived.Test.YthkgnakbkaafgaaGreatK5
set_option linter.all false
set_option maxRecDepth 20000
set_option maxHeartbeats 40000000
open Go.IntKind (i64)
open List Go.Proofs.Tryz
section
namespace Go.Proofs
open Go.RowKit Go.Maps Go.Sort Go.Shelf
def Tryz.sort212_ren : Go.Shelf.Ren := ⟨fun | 5 => 212 | 8 => 286 | 7 => 285 | 19 => 333 | 20 => 334 | 10 => 325 | 11 => 326 | 12 => 327 | 13 => 328 | 14 => 329 | 15 => 330 | 16 => 213 | 17 => 331 | 18 => 332 | 30 => 346 | 31 => 347 | 32 => 348 | 33 => 349 | 34 => 350 | 35 => 287 | 40 => 352 | n => n, fun | 23 => 22 | 25 => 3 | 3 => 3 | 32 => 128 | 22 => 22 | 0 => 0 | 44 => 331 | 46 => 23 | 4 => 4 | 36 => 325 | 35 => 324 | 41 => 221 | 5 => 5 | 9 => 9 | 53 => 338 | 57 => 342 | 63 => 345 | 64 => 309 | n => n, fun | n => n⟩
theorem Tryz.sort212 : Go.Proofs.SlLaysM.n5 Tryz.prog Tryz.sort212_ren := {
  mixed := by kernel_rfl
  f5 := ⟨Tryz.f212.name, by decide, Tryz.func212.trans (congrArg some (by kernel_rfl))⟩
  f7 := ⟨Tryz.f285.name, by decide, Tryz.func285.trans (congrArg some (by kernel_rfl))⟩
  f8 := Tryz.func286.trans (congrArg some (by kernel_rfl))
  f10 := ⟨Tryz.f325.name, by decide, Tryz.func325.trans (congrArg some (by kernel_rfl))⟩
  f11 := ⟨Tryz.f326.name, by decide, Tryz.func326.trans (congrArg some (by kernel_rfl))⟩
  f12 := ⟨Tryz.f327.name, by decide, Tryz.func327.trans (congrArg some (by kernel_rfl))⟩
  f13 := ⟨Tryz.f328.name, by decide, Tryz.func328.trans (congrArg some (by kernel_rfl))⟩
  f14 := ⟨Tryz.f329.name, by decide, Tryz.func329.trans (congrArg some (by kernel_rfl))⟩
  f15 := ⟨Tryz.f330.name, by decide, Tryz.func330.trans (congrArg some (by kernel_rfl))⟩
  f16 := ⟨Tryz.f213.name, by decide, Tryz.func213.trans (congrArg some (by kernel_rfl))⟩
  f17 := ⟨Tryz.f331.name, by decide, Tryz.func331.trans (congrArg some (by kernel_rfl))⟩
  f18 := ⟨Tryz.f332.name, by decide, Tryz.func332.trans (congrArg some (by kernel_rfl))⟩
  f19 := Tryz.func333.trans (congrArg some (by kernel_rfl))
  f20 := Tryz.func334.trans (congrArg some (by kernel_rfl))
  f30 := ⟨Tryz.f346.name, by decide, Tryz.func346.trans (congrArg some (by kernel_rfl))⟩
  f31 := Tryz.func347.trans (congrArg some (by kernel_rfl))
  f32 := Tryz.func348.trans (congrArg some (by kernel_rfl))
  f33 := ⟨Tryz.f349.name, by decide, Tryz.func349.trans (congrArg some (by kernel_rfl))⟩
  f34 := ⟨Tryz.f350.name, by decide, Tryz.func350.trans (congrArg some (by kernel_rfl))⟩
  f35 := ⟨Tryz.f287.name, by decide, Tryz.func287.trans (congrArg some (by kernel_rfl))⟩
  f40 := ⟨Tryz.f352.name, by decide, Tryz.func352.trans (congrArg some (by kernel_rfl))⟩
  t0 := Tryz.underlying0
  a0 := Tryz.isAgg0
  z0 := Tryz.sizeOf0
  v0 := Tryz.zeroValue0
  t3 := Tryz.underlying3
  a3 := Tryz.isAgg3
  z3 := Tryz.sizeOf3
  v3 := Tryz.zeroValue3
  t4 := Tryz.underlying4
  a4 := Tryz.isAgg4
  z4 := Tryz.sizeOf4
  v4 := Tryz.zeroValue4
  t5 := Tryz.underlying5
  a5 := Tryz.isAgg5
  z5 := Tryz.sizeOf5
  v5 := Tryz.zeroValue5
  t9 := Tryz.underlying9
  a9 := Tryz.isAgg9
  z9 := Tryz.sizeOf9
  v9 := Tryz.zeroValue9
  t22 := Tryz.underlying22
  a22 := Tryz.isAgg22
  z22 := Tryz.sizeOf22
  v22 := Tryz.zeroValue22
  t23 := Tryz.underlying22
  a23 := Tryz.isAgg22
  z23 := Tryz.sizeOf22
  v23 := Tryz.zeroValue22
  t25 := Tryz.underlying3
  a25 := Tryz.isAgg3
  z25 := Tryz.sizeOf3
  v25 := Tryz.zeroValue3
  t32 := Tryz.underlying128
  a32 := Tryz.isAgg128
  z32 := Tryz.sizeOf128
  v32 := Tryz.zeroValue128
  t35 := Tryz.underlying324
  a35 := Tryz.isAgg324
  z35 := Tryz.sizeOf324
  v35 := Tryz.zeroValue324
  t36 := Tryz.underlying325
  a36 := Tryz.isAgg325
  z36 := Tryz.sizeOf325
  v36 := Tryz.zeroValue325
  t41 := Tryz.underlying221
  a41 := Tryz.isAgg221
  z41 := Tryz.sizeOf221
  v41 := Tryz.zeroValue221
  t44 := Tryz.underlying331
  a44 := Tryz.isAgg331
  z44 := Tryz.sizeOf331
  v44 := Tryz.zeroValue331
  t46 := Tryz.underlying23
  a46 := Tryz.isAgg23
  z46 := Tryz.sizeOf23
  v46 := Tryz.zeroValue23
  t53 := Tryz.underlying338
  a53 := Tryz.isAgg338
  z53 := Tryz.sizeOf338
  v53 := Tryz.zeroValue338
  t57 := Tryz.underlying342
  a57 := Tryz.isAgg342
  z57 := Tryz.sizeOf342
  v57 := Tryz.zeroValue342
  t63 := Tryz.underlying345
  a63 := Tryz.isAgg345
  z63 := Tryz.sizeOf345
  v63 := Tryz.zeroValue345
  t64 := Tryz.underlying309
  a64 := Tryz.isAgg309
  z64 := Tryz.sizeOf309
  v64 := Tryz.zeroValue309 }
end Go.Proofs
namespace Go.Ab.Tryz
open Classical Go.Proofs Go.Ab Go.RowKit Go.Maps Go.Sort
variable {P:Program} {v:Value} {ops:Array Oper} {rest:List Oper} {o:Oper} {a:Act} {Q:Exit->Act->World->Prop} {D:DataW Unit} {V W m:List Int} {x:Int} {left:Lit->Bool} {w:World}
variable {H:Type}
theorem aXU:Tryz.f146.ntmps=58:=WP
theorem tn:prog.underlying 269=some (.map 3 4):=WP
theorem tp:prog.underlying 3=some (.int .i64):=WP
theorem ts:prog.underlying 4=some .bool:=WP
theorem a5L:prog.underlying 22=some (.slice 3):=WP
theorem lf:Keyed prog 3:=int_keyed tp
theorem aXV:(prog.info? 3).map (fun i=>(i.zero,i.size,i.bytes))=some (some (.int .i64 0),1,8):=WP
theorem aXW (w:World):(zeroValue 4).run prog w=.ok (.bool false) w:=WP
def Gg (D:DataW Unit) (p q:Int->Bool):Prop:=∀x:Int,Maps.has D (.int .i64 x)=p x/\(p x=true->∀z,D.atKey (.int .i64 x) z=.lit (.bool (q x)))
theorem Gg.start:Gg (.map []) (fun _=>false) fun _=>false:=fun _=>⟨rfl,fun h=>wu⟩
theorem aNV {D:List Int} (h:∀n∈D,(Lit.int .i64 n).wf=true) (k:Nat):(Lit.int .i64 (D.getD k 0)).wf=true:=by
 rw[getD_eq_getElem?_getD];cases e:D[k]? with
 | none=>decide
 | some x=>grind
theorem Cf {e:TypeId} (he:P.underlying e=some .bool) {z:DataW H × List MemPlace} (h:plainElem P e v=some z):∃c,v=.bool c:=by
 cases v<;>simp[plainElem,he] at h
 exact⟨_,rfl⟩
theorem Cr (w:World) (hg:o.guard=none) (m x:Operand) (t:TypeId) (A:o.op=Op.lookup t m x true)
 (k e:TypeId) (K:Keyed P k) (ht:P.underlying t=some (.map k e)) (he:P.underlying e=some .bool) (R:(zeroValue e).run P w=.ok (.bool false) w) (b n:Nat) (D:DataW H)
 (hm:a.eval m=.map (some b)) (C:w.ownsMap P k (plainElem P e) b n D) (key:Value) (kl:Lit) (N:a.eval x=key) (J:Go.keyOf P k key=some kl)
 (hK:∀c:Bool,wpList P ops Q rest (a.put o.dst (.tuple #[.bool c,.bool (Maps.has D kl)])) w):wpList P ops Q (o :: rest) a w :=
 wpList_lookup_own_ok w hg m x t A k e K ht (plainElem P e) R (.lit (.bool false)) [] (plainElem_bool he false) b n D hm C key kl N J (fun v ps hv=>by
  grind [Cf])
theorem Jg (w:World) (hg:o.guard=none) (it:Operand) (A:o.op=Op.next it false) (k e:TypeId) (K:Keyed P k) (R:P.underlying k=some (.int .i64)) (he:P.underlying e=some .bool)
 (b r n:Nat) (D:DataW Unit) (left:Lit->Bool) (aJ:Nat) (A1:a.eval it=.pointer (some ⟨r,0,none⟩)) (h:w.ranges P k (plainElem P e) b r n D left aJ)
 (M:aJ=0->(∀kl,left kl=false)->wpList P ops Q rest (a.put o.dst (.tuple #[.bool false])) w)
 (hF:∀(x:Int) (w':World) (G:Nat),(Lit.int .i64 x).wf=true->left (.int .i64 x)=true->(∀S,D.atKey (.int .i64 x) S=.lit (.bool false))->w'.ranges P k (plainElem P e) b r n D (fun z=>left z && !z.sameKey (.int .i64 x)) G->G<aJ ->
  w.grownBy w' (some r)->w'.heap.size=w.heap.size->(Instr.entry (.pointer (some ⟨r,0,none⟩))).run P w'=.ok (.tuple #[.int .i64 x,.bool false]) w'->wpList P ops Q rest (a.put o.dst (.tuple #[.bool true,.int .i64 x,.bool false])) w')
 (hT:∀(x:Int) (w':World) (G:Nat),(Lit.int .i64 x).wf=true->left (.int .i64 x)=true->(∀S,D.atKey (.int .i64 x) S=.lit (.bool true))->w'.ranges P k (plainElem P e) b r n D (fun z=>left z && !z.sameKey (.int .i64 x)) G->G<aJ ->
  w.grownBy w' (some r)->w'.heap.size=w.heap.size->(Instr.entry (.pointer (some ⟨r,0,none⟩))).run P w'=.ok (.tuple #[.int .i64 x,.bool true]) w'->wpList P ops Q rest (a.put o.dst (.tuple #[.bool true,.int .i64 x,.bool true])) w') :
 wpList P ops Q (o :: rest) a w :=
 wpList_next_ranges w hg it A k K (plainElem P e) (Value.int .i64) Value.bool (fun key kl J=>by grind [keyOf_int_inv]) (fun v y C=>Cf he C)
  b r n D left aJ A1 h M (fun x c kl y w' G J hlk C Xb hrg bB hgr hsz O4=>by
    obtain⟨x',ex,rfl,hwx⟩:=Maps.keyOf_int_inv R J
    cases ex
    rw[plainElem_bool he] at C;cases C
    cases c
    all_goals grind)
theorem HC (V:List Int) (k:Nat) (y:Int) (h:k<V.length):(V.take (k+1)).contains y=((V.take k).contains y || y == V.getD k 0):=by
 grind [List.take_add_one]
theorem kl (y:Int):WideAt.IsKeyLit (.int .i64 y):=True.intro
theorem Gg.put {D:DataW Unit} {p q:Int->Bool} (h:Gg D p q) (hD:IsMap D) (x:Int) (b:Bool) {p' q':Int->Bool} (hp:∀y,p' y=(p y || y == x)) (N:∀y,q' y=if y=x then b else q y):Gg (D.put (.int .i64 x) (.lit (.bool b))) p' q':=fun y=>by
 by_cases e:y=x
 ·grind [has_put_same,kl,atKey_put_same]
 ·have S:(Lit.int .i64 y)≠(.int .i64 x):=fun h=>e (by cases h;rfl)
  rw[hp,N,if_neg e,has_put_other S,(h y).1];exact⟨by simp[e],fun Y z=>by rw[atKey_put_other S];exact (h y).2 (by simpa [e] using Y) z⟩
def GV (V W:List Int) (left:Lit->Bool) (m:List Int):Prop:=m.Nodup/\∀y,y∈m↔(y∈V/\y∈W/\left (.int .i64 y)=false)
theorem Gg.val (h:Gg D V.contains W.contains) {c:Bool} (l:∀S,D.atKey (.int .i64 x) S=.lit (.bool c)):x∈V/\W.contains x=c:=by
 have C:V.contains x=true:=(h x).1 ▸ has_true_of_atKey l
 have hc:=(h x).2 C (.lit (.bool c))
 grind
theorem GV.start (h:Gg D V.contains W.contains):GV V W (Maps.has D) []:=⟨List.nodup_nil,fun y=>by rw[(h y).1];grind⟩
theorem HD (y x:Int):(Lit.int .i64 y).sameKey (.int .i64 x)=decide (y=x):=by simp[Lit.sameKey]
theorem GV.skip (M:GV V W left m) (h:Gg D V.contains W.contains) (l:∀S,D.atKey (.int .i64 x) S=.lit (.bool false)):GV V W (fun z=>left z && !z.sameKey (.int .i64 x)) m:=by
 have hw:¬x∈W:=fun e=>by have:=(h.val l).2;grind
 refine⟨M.1,fun y=>(M.2 y).trans ?_⟩
 grind [HD]
theorem GV.add (M:GV V W left m) (h:Gg D V.contains W.contains) (l:∀S,D.atKey (.int .i64 x) S=.lit (.bool true)) (hl:left (.int .i64 x)=true):GV V W (fun z=>left z && !z.sameKey (.int .i64 x)) (m++[x]):=by
 obtain⟨hv,hw⟩:=h.val l
 have hn:x ∉ m:=fun N=>by have:=((M.2 x).1 N).2.2;grind
 refine⟨nodup_append.2 ⟨M.1,qe,fun a ha b hb=>qg⟩,fun y=>?_⟩
 by_cases e:y=x
 ·grind [HD]
 ·simp[M.2 y,e,HD]
theorem GV.done (M:GV V W left m) (hl:∀kl,left kl=false) (hV:V.Pairwise (· < ·)):m.Perm (V.filter fun x=>W.contains x)/\(m.mergeSort fun x y=>decide (x<=y))=V.filter fun x=>W.contains x:=by
 have hp:m.Perm (V.filter fun x=>W.contains x):=(List.perm_ext_iff_of_nodup M.1 ((hV.imp fun h=>Int.ne_of_lt h).filter _)).2 fun y=>by rw[M.2 y,hl,mem_filter,List.contains_iff_mem];simp
 refine⟨hp,List.Perm.eq_of_pairwise (le:=fun a b=>decide (a<=b)=true) (fun a b _ _ J h2=>qg) (List.pairwise_mergeSort (fun a b c J h2=>qg) (fun a b=>qg) m) ((hV.filter _).imp fun h=>qg) ((List.mergeSort_perm m _).trans hp)⟩
theorem yB {base e sz n:Nat} {xs:List Value} (h:w.ownsRow base e sz v n xs) (h0:0<n):kK w base e sz v n xs :=
 ⟨h.1,h.2.elim (fun k=>WF) fun ⟨g,cap,cur,J,h2,S,X,C,r,u⟩=>.inr ⟨g,cap,cur,J,h2,S,X,C,r,u,WF⟩⟩
theorem aXX (w:World) (xs:Array Value) (b1 o1 c1 b2 o2 c2:Nat) (V W:List Int) (sx:xs.size=70) (h1:xs[34]? = some (.slice (some ⟨b1,o1,none⟩) V.length c1)) (h2:xs[69]? = some (.slice (some ⟨b2,o2,none⟩) W.length c2))
 (XF:b1<w.heap.size) (NX:b2<w.heap.size) (pV:V.Pairwise (· < ·)) (nV:V.length<1000000) (nW:W.length<1000000) (wV:∀n∈V,(Lit.int .i64 n).wf=true) (wW:∀n∈W,(Lit.int .i64 n).wf=true)
 (hV:∀j,j<V.length->w.cell? ⟨b1,o1+j,none⟩=some (.int .i64 (V.getD j 0))) (hW:∀j,j<W.length->w.cell? ⟨b2,o2+j,none⟩=some (.int .i64 (W.getD j 0))) :
 Calls prog 146 #[.agg xs] w fun e w'=>∃v,e=.returned v/\w.grownBy w' none/\((V.filter fun x=>W.contains x)=[]->v=.slice none 0 0) /\
  ((V.filter fun x=>W.contains x)≠[]->kK w' w.heap.size 3 1 v (V.filter fun x=>W.contains x).length ((V.filter fun x=>W.contains x).map (Value.int .i64))):=by
 obtain⟨L,hL⟩:∃L,(V.filter fun x=>W.contains x)=L:=⟨_,rfl⟩
 rw[hL];have e1:xs[34]' WF=.slice (some ⟨b1,o1,none⟩) V.length c1:=qg
 have e2:xs[69]' WF=.slice (some ⟨b2,o2,none⟩) W.length c2:=qg
 have hmm:=@run_makeMap prog
 go_enter func146,aXU
 go_wp2
 go_loopw [18] (fun i wr=>∃(k:Nat) (D:DataW Unit),k<=V.length/\i=.int .i64 k/\wr.ownsMap prog 3 (plainElem prog 4) (w.heap.size+1) k D/\Gg D (fun x=>(V.take k).contains x) (fun _=>false)/\wr.heap[w.heap.size]? = some (.cells xs 72 (0,0))/\Below w.heap.size w wr)
  (fun i _=>V.length-(RowKit.intOf i).toNat)
 case atStart =>
  have e:(w.alloc (.cells xs 72)).heap.size=w.heap.size+1:=qe
  exact⟨0,.map [],Nat.zero_le _,rfl,e ▸ World.ownsMap_made (w.alloc (.cells xs 72)) _ _ _,fun y=>⟨rfl,fun h=>wu⟩,heap_alloc2_old w _ _,((Below.refl _ _).alloc (Nat.le_refl _) _).alloc qe _⟩
 case round =>
  obtain⟨k,D,R,rfl,uP,l,hbox,p⟩:=hrel
  obtain⟨x,N⟩:∃x,V.getD k 0=x:=⟨_,rfl⟩
  have hcx:k<V.length->wr.cell? ⟨b1,o1+k,none⟩=some (.int .i64 x):=fun _=>N ▸ (p.cell (by exact XF)).trans (hV k WF)
  have GX:Go.keyOf prog 3 (.int .i64 x)=some (.int .i64 x):=keyOf_int_mk tp (N ▸ aNV wV k)
  have hb69:wr.cell? ⟨w.heap.size,69,none⟩=some (.slice (some ⟨b2,o2,none⟩) W.length c2):=by grind [cell_of_row]
  go_wp2_with (first
   | (at_mapUpdate;refine wpList_mapUpdate_own _ rfl _ _ _ 269 rfl 3 4 lf tn _ (w.heap.size+1) k _ rfl uP zy _ _ _ rfl rfl GX _ [] (plainElem_bool ts _) ?_;intro u hown1 hgrow1)
   | go_in)
  ·have A:k<V.length:=we
   go_roundw
   case rel =>
    grind [Gg.put,World.ownsMap.isMap,HC,World.grownBy.block,Below.grown]
   grind [RowKit.intOf]
  have hkl:k=V.length:=WF
  simp only[show decide (k<V.length)=false from decide_eq_false WF]
  subst hkl;go_loopw [29] (fun i wr=>∃(k:Nat) (D:DataW Unit),k<=W.length/\i=.int .i64 k/\wr.ownsMap prog 3 (plainElem prog 4) (w.heap.size+1) (V.length+k) D/\Gg D V.contains (fun x=>(W.take k).contains x)/\Below w.heap.size w wr)
   (fun i _=>W.length-(RowKit.intOf i).toNat)
  case atStart =>
   rw[take_length] at l;exact⟨0,D,Nat.zero_le _,rfl,uP,l,p⟩
  case round =>
   obtain⟨k,D,R,rfl,uP,l,p⟩:=hrel
   obtain⟨x,N⟩:∃x,W.getD k 0=x:=⟨_,rfl⟩
   have hcx:k<W.length->wr.cell? ⟨b2,o2+k,none⟩=some (.int .i64 x):=fun _=>N ▸ (p.cell (by exact NX)).trans (hW k WF)
   have hwf:=N ▸ aNV wW k
   have GX:Go.keyOf prog 3 (.int .i64 x)=some (.int .i64 x):=keyOf_int_mk tp hwf
   have hh:Maps.has D (.int .i64 x)=V.contains x:=(l x).1
   go_wp2_with (first
    | (at_lookup;refine Cr _ rfl _ _ 269 rfl 3 4 lf tn ts (aXW _) _ (V.length+k) D rfl uP _ _ rfl GX ?_;intro c)
    | (at_mapUpdate;refine wpList_mapUpdate_own _ rfl _ _ _ 269 rfl 3 4 lf tn _ (w.heap.size+1) (V.length+k) _ rfl uP zy _ _ _ rfl rfl GX _ [] (plainElem_bool ts _) ?_;intro u hown1 hgrow1)
    | (at_range;refine wpList_range_own _ rfl _ 269 rfl 3 4 lf tn _ (w.heap.size+1) (V.length+k) D rfl uP ?_;intro w0 hrg0 hg0 hs0)
    | go_in)
   ·have A:k<W.length:=we
    have Ry:x∈V:=we
    have KP:V.contains x=true:=List.contains_iff_mem.2 Ry
    go_roundw
    case rel =>
     exact⟨k+1,_,WF,by go_num,hown1,l.put uP.isMap x true (fun y=>by by_cases e:y=x<;>simp[e,Ry]) (fun y=>by rw[HC W k y A,N];by_cases e:y=x<;>simp[e]),p.grown hgrow1 p.size (fun j hj=>ou)⟩
    case measure=>simp[RowKit.intOf];omega
   ·have A:k<W.length:=we
    have Ry:¬x∈V:=we
    have KP:V.contains x=false:=Bool.eq_false_iff.2 fun e=>Ry (List.contains_iff_mem.1 e)
    go_roundw
    case rel =>
     exact⟨k+1,_,WF,by go_num,uP.mono WF,fun y=>⟨(l y).1,fun Y z=>by rw[(l y).2 Y];grind [HC]⟩,p⟩
    case measure=>simp[RowKit.intOf];omega
   have hkl:k=W.length:=WF
   simp only[show decide (k<W.length)=false from decide_eq_false WF]
   subst hkl;rw[take_length] at l;go_frame
   have hsz:=uP.size_le
   have hbl:=uP.lt
   obtain⟨i0,hi,Yu,hz1,hz2⟩:=info_parts aXV
   obtain⟨r,X⟩:∃r,wr.heap.size=r:=⟨_,rfl⟩
   rw[X] at hrg0 hs0 ⊢;go_loopw [10] (fun v wq=>∃(left:Lit->Bool) (aJ:Nat) (m:List Int),wq.ranges prog 3 (plainElem prog 4) (w.heap.size+1) r (V.length+W.length) D left aJ/\m.length+aJ<=Maps.size D /\
    wq.ownsRow w0.heap.size 3 1 v m.length (m.map (Value.int .i64))/\(v=.slice none 0 0↔m=[])/\GV V W left m/\w.grownBy wq none/\w0.heap.size<=wq.heap.size)
    (fun _ wq=>wq.rangeLeft (w.heap.size+1) r)
   case atStart=>exact⟨_,_,[],hrg0,qe,⟨rfl,.inl ⟨rfl,rfl⟩⟩,qe,GV.start l,⟨hg0.os.trans p.os,hg0.tape.trans p.tape,hg0.output.trans p.output,Nat.le_trans p.size hg0.size,fun j hj _=>(hg0.block j (Nat.lt_of_lt_of_le hj p.size) qe).trans (p.block j hj)⟩,Nat.le_refl _⟩
   case round =>
    obtain⟨left,aJ,m,hrg,Tq,aHl,hnn,M,p,hsw⟩:=hrel
    have h01:w.heap.size+1<w0.heap.size:=WF
    have O2:w.heap.size+1<r:=WF
    go_wp2_with (first
     | (at_next;refine Jg _ rfl _ rfl 3 4 lf tp ts (w.heap.size+1) r (V.length+W.length) _ _ _ rfl hrg ?_ ?_ ?_)
     | go_in)
    ·intro yX hl0;obtain⟨hp,hm⟩:=M.done hl0 pV
     rw[hL] at hp hm;rcases aHl.2 with ⟨hnil,hz⟩|⟨g,cap,cur,C,vE,hb,KE,h2',h3',h4'⟩
     ·subst hnil;have G:=AnyM.slices_Sort_int_none Tryz.sort212 none 0 wr
      change Calls prog 212 _ _ _ at G
      go_wp2_with (go_at_call 212;refine G.mono ?_;rintro e w' ⟨rfl,rfl⟩)
      go_ret
      have h0:L=[]:=by rw[<- length_eq_zero_iff,<- hp.length_eq];exact hz
      exact⟨_,rfl,p,fun _=>rfl,fun h=>absurd h0 h⟩
     ·subst C;have hH:Holds (Value.int .i64) wr g 0 m.toArray:=holds_of_blockI hb (by simpa using h4')
      have G:=AnyM.slices_Sort_int Tryz.sort212 g 0 cap m wr hH (Array.getElem?_eq_some_iff.1 hb).1 WF
      change Calls prog 212 _ _ _ at G
      go_wp2_with (go_at_call 212;refine G.mono ?_;rintro e w' ⟨rfl,nn,os,rfl⟩)
      go_ret
      have hll:=hp.length_eq
      have S:L≠[]:=fun e=>by
       simp_all
      have h0:=length_pos_iff.2 S
      refine⟨_,rfl,p.andThen (grownBy_sortedI _) (fun j hj=>ou),fun h=>absurd h S,fun _=>?_⟩
      rw[<- hll];exact yB (ownsRow_sortedI hll.symm WF hb KE h2' h3') WF
    ·intro x w2 aP3 hwx hlk Xb X4 A hg2 hs2 O4;clear hs2
     go_wp2
     go_roundw
     case rel =>
      exact⟨_,aP3,m,X4,WF,aHl.kept hg2 (Or.inr (row_ne_iter aHl hrg).symm),hnn,M.skip l Xb,p.andThen hg2 (fun j hj=>ou),by have:=hg2.size;omega⟩
     case measure=>rw[X4.left_eq,hrg.left_eq];exact A
    ·intro x w2 aP3 hwx hlk Xb X4 A hg2 hs2 O4;have PY:=aHl.kept hg2 (Or.inr (row_ne_iter aHl hrg).symm)
     clear hs2
     have hm1:m.length+1<=maxLen:=zy
     have hm2:(m.length+1) * 8<=140737488355328:=WF
     have hm3:w0.heap.size<=(w2.alloc (.cells #[.int .i64 x] 3)).heap.size:=by have:=hg2.size;simp;omega
     go_wp2_with (first
      | (at_builtin;go_loud (refine wpList_append_own _ rfl _ _ 22 rfl w0.heap.size 3 i0 (.int .i64 0) 1 8 a5L hi Yu hz1 hz2 rfl ZB _ _ _ rfl (PY.alloc _) ⟨w2.heap.size,0,none⟩ 1 1 [.int .i64 x] rfl rfl (cell_one_new _ _ _) (by simp[Value.oneCell']) hm1 hm2 hm3 ?_;intro v' w3 hown' hg3 hnil3;go_frame))
      | go_in)
     exact⟨⟨_,aP3,m++[x],(X4.alloc _).kept hg3 (row_ne_low PY h01) (row_ne_iter PY X4),qs,by simpa using hown',⟨fun h=>vq,fun h=>by simp at h⟩,M.add l Xb hlk,
      ((p.andThen hg2 (fun j hj=>ou)).trans (World.grownBy_alloc _ _ none)).andThen hg3 (fun j hj=>.inl (by have:=(PY.lt j hj).1;omega)),by have:=hg3.size;omega⟩,
      by rw[((X4.alloc _).kept hg3 (row_ne_low PY h01) (row_ne_iter PY X4)).left_eq,hrg.left_eq];exact A⟩
theorem aK6 {C:Ctx} (hw:∀b o,C.h b o->w.heap[b]? = some o) {a:AV} {y:Value} (h:r9 a=some V) (hV:V≠[]) (X:cD C a y):∃b o c,y=.slice (some ⟨b,o,none⟩) V.length c/\b<w.heap.size/\∀j,j<V.length->w.cell? ⟨b,o+j,none⟩=some (.int .i64 (V.getD j 0)):=by
 unfold r9 at h;split at h
 case h_2=>cases h
 rename_i n cs;split at h
 case isFalse=>cases h
 rename_i M;subst M;have key:∀(cs:List AV) (V:List Int),bM (cs.map V4)=some V->V.length=cs.length/\∀(j:Nat),j<V.length->cs[j]? = some (aa (V.getD j 0)):=fun cs=>by
  induction cs with
  | nil=>intro V h;cases h;grind
  | cons b l ih =>
    intro V h;rw[map_cons] at h;cases hb:V4 b with
    | none=>rw[hb] at h;cases h
    | some u =>
      rw[hb] at h;cases W:bM (l.map V4) with
      | none=>simp[bM,W] at h
      | some L =>
        simp only[bM,W,cR,cQ] at h;subst h;obtain⟨J,h2⟩:=ih L W
        refine⟨bx,fun j hj=>?_⟩
        cases j with
        | succ j=>grind
        | zero =>
          unfold V4 at hb;grind
 obtain⟨J,h2⟩:=key cs V h
 cases X with
 | QR=>grind
 | sl _ _ b off cap arr T fr nM hb hle S _ =>
   rw[<- J];have D:=hw _ _ hb
   refine⟨b,off,cap,rfl,(Array.getElem?_eq_some_iff.1 D).1,fun j hj=>?_⟩
   rw[cell_of_row w b _ arr T fr D];have A:off+j<arr.size:=WF
   have Y:=S j _ _ (h2 j hj) (Array.getElem?_eq_getElem A)
   rw[Array.getElem?_eq_getElem A];generalize arr[off+j]=z at Y
   cases Y
   rfl
theorem aP4:∀xs r,gh xs=some r->Enters prog 146/\pU prog 146 xs r:=by
 intro xs r h;unfold gh at h;split at h
 case h_2=>cases h
 rename_i cs;split at h
 case h_2=>cases h
 rename_i V W hV hW;split at h
 case isFalse=>cases h
 rename_i hl;obtain⟨l1,l2,R,l4,l5,l6,l7⟩:=hl
 cases h
 refine⟨⟨Tryz.f146,func146,WP,rfl⟩, ?_⟩
 show Eh prog 146 [.agg cs] _
 intro w h0 vs u X;obtain⟨x,rfl,q0⟩:∃x,vs=#[x]/\cD (bare h0) (.agg cs) x:=by
  have hl:=X.len
  obtain⟨l⟩:=vs
  match l,hl with
  | [x],_=>exact⟨x,rfl,X.rel 0 _ x rfl rfl⟩
 obtain⟨J,rfl⟩:∃J,x=.agg J:=by cases q0;exact⟨_,rfl⟩
 have S:cs.length=J.size/\∀(i:Nat) (x:AV) (y:Value),cs[i]? = some x->J[i]? = some y->cD (bare h0) x y:=by cases q0<;>grind
 have get:∀(i:Nat) (L:List Int),i<70->L≠[]->cs[i]?.bind r9=some L->∃b o c,J[i]? = some (.slice (some ⟨b,o,none⟩) L.length c)/\b<w.heap.size/\∀j,j<L.length->w.cell? ⟨b,o+j,none⟩=some (.int .i64 (L.getD j 0)):=fun i L hi C h=>by
  cases G:cs[i]? with
  | none=>grind
  | some a =>
    rw[G] at h;have A:i<J.size:=WF
    obtain⟨b,o,c,e,h2,h3⟩:=aK6 (w:=w) u h C (S.2 i a _ G (Array.getElem?_eq_getElem A))
    grind
 obtain⟨b1,o1,c1,g1,g2,g3⟩:=get 34 V WF l2 hV
 obtain⟨b2,o2,c2,k1,k2,k3⟩:=get 69 W WF R hW
 have wf:∀n∈V++W,(Lit.int .i64 n).wf=true:=fun n M=>WalkArith.wf_i64 qg
 refine (aXX w J b1 o1 c1 b2 o2 c2 V W WF g1 k1 g2 k2 l4 l6 l7 (fun n M=>wf n (mem_append_left _ M)) (fun n M=>wf n (mem_append_right _ M)) g3 k3).mono ?_
 rintro e w' ⟨v,rfl,hg,M,hs⟩
 unfold aPv;split
 ·rename_i e0;rw[M e0];exact⟨_,rfl,⟨[],qe,qe,qe,fun _ _=>rfl,fun D d c _ _=>⟨.v _,qe⟩⟩,hg⟩
 ·rename_i e0;have ho:=hs e0
  have hv1:v.oneCell'=true/\∀b,cW v=some b->w.heap.size<=b:=by
   rcases ho.2 with ⟨p,rfl,_⟩|⟨g,cap,cur,rfl,hb,_,_,_,_,_,h0⟩
   ·grind
   ·exact⟨rfl,fun b h=>ji⟩
  refine⟨_,rfl,⟨[v],by simpa using hv1.1,fun i j x y b N Y _ _=>?_,by simpa using hv1.2,fun _ _=>rfl,fun D d c _ hd=>?_⟩,hg⟩
  ·grind
  obtain⟨G,m⟩:=hd 0 v rfl
  refine⟨?_,fun i e x he N=>?_⟩
  ·rw[<- m];exact .own d c G qg
  ·cases i with
   | succ i=>cases N
   | zero =>
     cases he
     cases N
     exact⟨_,ho,⟨qe,fun i x y N Y=>by
      grind [cD.v],fun i y Y=>by
      obtain⟨z,_,rfl⟩:=mem_map.1 (mem_of_getElem? Y)
      rfl⟩⟩
end Go.Ab.Tryz
end
namespace Go.Ab.Tryz
open Classical Go Go.Proofs Go.Shelf Go.Lib Go.Sort
def aP5:Ren:=⟨fun n=>if n=112 then 335 else n,fun n=>if n=28 then 22 else n,fun n=>n⟩
def aBY:Lays.n112 prog aP5:={
 mixed:=WP
 f112:=WP
 t0:=WP
 a0:=fun w=>rfl
 z0:=fun w=>rfl
 v0:=fun w=>rfl
 t3:=WP
 a3:=fun w=>rfl
 z3:=fun w=>rfl
 v3:=fun w=>rfl
 t4:=WP
 a4:=fun w=>rfl
 z4:=fun w=>rfl
 v4:=fun w=>rfl
 t28:=WP
 a28:=fun w=>rfl
 z28:=fun w=>rfl
 v28:=fun w=>rfl }
def aDw {C:Ctx} {l:List Int} {ys:List Value} (h:dN C (aH l) ys):ys=l.map (Value.int .i64):=by
 have W:=h.len
 have G:aH l=l.map fun x=>AV.v (.int .i64 x):=by
  clear h W
  induction l<;>grind [aH,oF]
 rw[G] at h W;simp only[length_map] at W;apply ext_getElem (by simpa using W.symm)
 intro i h1 h2;have:=h.rel i (aa (l[i]' oo)) ys[i] qg qe
 grind [iM]
def X5 (C:Ctx) (l:List Int):dN C (aH l) (l.map (Value.int .i64)):=by
 have G:aH l=(l.map (Value.int .i64)).map AV.v:=by
  induction l<;>grind [aH,oF]
 rw[G];exact dN.vs C _ (fun y Y=>by obtain⟨x,_,rfl⟩:=mem_map.1 Y;rfl)
def PZ:∀ {cs:List AV} {l:List Int},bM (cs.map V4)=some l->cs=aH l
 | [],l,h=>by cases h;rfl
 | x :: cs,l,h=>by
   rw[map_cons] at h;cases N:V4 x with
   | none=>rw[N] at h;cases h
   | some z =>
     rw[N] at h;cases X:bM (cs.map V4) with
     | none=>grind [bM]
     | some m =>
       simp only[bM,X] at h;cases h
       rw[PZ X];unfold V4 at N;split at N
       ·cases N;rfl
       ·cases N
def aP6:∀xs r,jx xs=some r->Enters prog 335/\pU prog 335 xs r:=by
 intro xs r h;unfold jx at h;split at h
 ·rename_i e sz n cs;split at h
  ·rename_i l W;split at h
   ·rename_i G;obtain⟨rfl,rfl,M⟩:=G
    obtain rfl:=PZ W
    have M:l.length=n:=by rw[<- M,Bb,Nat.mul_one]
    subst M;simp only[cQ] at h;subst h;refine⟨⟨Tryz.f335,func335,WP,WP⟩, ?_⟩
    suffices key:TS prog 335 3 1 l.length (aH l) [] (.cY [.uniq 3 1 l.length (aH l).reverse]) from by simp only[pU];exact key
    intro w h0 v0 ys vs hh hav ho pA J;have S:vs=#[]:=by
     have:=J.len
     grind
    subst S;have C:=aDw pA
    subst C;rw[Ww];rcases ho.2 with ⟨p,rfl,M⟩|⟨KO,cap,cur,rfl,hb,u,Xd,KJ,Tq,D,yX⟩
    ·have W:l=[]:=length_eq_zero_iff.1 M
     subst W;refine (Any.slices_Reverse_int_empty aBY p 0 w).mono ?_
     grind [World.grownBy.mk]
    ·have R:Holds (Value.int .i64) w KO 0 l.toArray:=holds_of_blockI u (by rw[<- D];simp)
     refine (Any.slices_Reverse_int aBY KO 0 cap l w R ot).mono ?_
     rintro en w' ⟨rfl,m,rfl⟩
     have e1:putRow (Value.int .i64) (Sort.ahead w m) KO 0 l.reverse.toArray=grow (putRow (Value.int .i64) (Sort.ahead w m) KO 0 l.reverse.toArray) #[]:=(grow_empty _).symm
     refine⟨_,rfl, ?_,rfl,l.reverse.map (Value.int .i64), ?_,X5 _ _⟩
     ·rw[gK yX,e1];exact grownBy_sortedI _
     ·rw[e1];exact Go.Ab.yB (ownsRow_sortedI (by simp) (Nat.zero_le _) u Xd KJ Tq)
   ·cases h
  ·cases h
 ·cases h
end Go.Ab.Tryz
section
namespace Go.Ab.Tryz
open Classical Go.Proofs Go.Ab Go.RowKit
variable {w w':World} {ops:Array Oper} {o:Oper} {a:Act} {Q:Exit->Act->World->Prop} {S:Value}
section
variable {P:Program}
theorem xV (w:World) (M W ty elem sz:Nat) (g o C R:Nat) (a:Addr) (D S:Nat) (cur:Array Value) (t:TypeId) (cs:List Value)
 (hu:P.underlying M=some (.slice elem)) (hs:(P.info? elem).map (·.size)=some sz)
 (hg:w.heap[g]? = some (.cells cur t (0,0))) (hn:cs.length=Nat.min D C * sz)
 (G:∀j v,cs[j]? = some v->w.cell? (a.add j)=some v) (A:o+cs.length<=cur.size) (J:∀v∈cs,v.oneCell'=true) :
 (Builtin.copy_ #[M,W] ty #[.slice (some ⟨g,o,none⟩) C R,.slice (some a) D S]).run P w =
  .ok (goInt (Nat.min D C)) (w.setRow g (cur.toList.take o++cs++cur.toList.drop (o+cs.length)).toArray):=by
 have hl:=run_loadCells_list (P:=P) w a cs G
 have oP:=run_storeCells_at P g o t cs 0 cur w hg (by simpa using A) J
 cases N:P.info? elem with
 | none=>simp[N] at hs
 | some i =>
   simp_all [Builtin.copy_,Builtin.lenOf,Builtin.firstCells,sizeOf,typeInfo,run_underlying]
theorem Ug {rest:List Oper} (J:o.guard=none) (d s:Operand) (t D:TypeId)
 (p:o.op=.call { callee:=.builtin .copy,args:=#[d,s],argTypes:=#[t,D]}) (v u:Value) (l:a.eval d=v) (hs:a.eval s=u)
 (X:(Builtin.copy_ #[t,D] o.type #[v,u]).run P w=.ok S w') (h:wpList P ops Q rest (a.put o.dst S) w'):wpList P ops Q (o :: rest) a w :=
 wpList_plain J fun K C=>by
  unfold Oper.wp execOp;simp only[p,resolve,invoke,builtin,Sem.run_bind,Sem.run_pure,Result.andThen_ok,List.map_toArray,map_cons,map_nil,l,hs,X];exact C _ _ h
theorem HE {K:Act->World->Prop} {E:Prop}
 (hg:o.guard=none) (d x:Operand) (M W:TypeId) (A:o.op=Op.call { callee:=Callee.builtin Builtin.copy,args:=#[d,x],argTypes:=#[M,W]})
 (v u:Value) (l:a.eval d=v) (N:a.eval x=u) (X:(Builtin.copy_ #[M,W] o.type #[v,u]).run P w=.ok S w') (C:K (a.put o.dst S) w') :
 if Region.wanted o (yielded ops a.tmps)=true then Oper.wp P o a w K Q else E:=by
 have hw:Region.wanted o (yielded ops a.tmps)=true:=by simp[Region.wanted,hg]
 rw[if_pos hw];unfold Oper.wp;simp[execOp,A,resolve,invoke,builtin,l,N,X,Result.andThen]
 exact C
end
def ul3:prog.underlying 3=some (.int .i64):=WP
def X6 (w:World) (b:Nat) (A B:Array Value):w.grownBy ((w.drew.setRow b A).setRow b B) (some b) :=
 ⟨rfl,rfl,rfl,vq,fun k hk S=>by
  have R:k≠b:=fun e=>S (by rw[e])
  rw[setRow_other _ b k _ R,setRow_other _ b k _ R];rfl⟩
def X7 (w:World) (o:Obj) (A B:Array Value) (r:Option Nat):w.grownBy (((w.drew.alloc o).setRow w.heap.size A).drew.setRow w.heap.size B) r :=
 ⟨rfl,rfl,rfl,by
  simp_all,fun k hk _=>by
  grind [World.setRow,World.drew,heap_alloc_old]⟩
end Go.Ab.Tryz
end
section
namespace Go.Ab.Tryz
open Classical Go.Proofs Go.Ab Go.RowKit
variable {i n:Nat}
structure LO (F T E Z B U V:Nat):Prop where
 fn:∃fn,prog.funcs[F]? = some fn/\fn.body=some (gz T U V)/\fn.ntmps=95/\fn.results=#[.tmp 6]
 ul:prog.underlying T=some (.slice E)
 inf:∃i0 z,prog.info? E=some i0/\i0.zero=some z/\i0.size=Z/\i0.bytes=B/\z.cells.size=Z
 hB:B<=1000
 hZ:1<=Z
 ov : ∃ fo, Tryz.prog.funcs[U]? = some fo ∧ (fo.name == "runtime.NumGoroutine") = false ∧ fo.body.isNone = true ∧ Extern.findNext fo = none ∧ Extern.find fo = some (Extern.SlicesOverlaps.overlaps #[T, T] #[4])
variable {F T E Z B U V:Nat}
theorem LO.sz (I:LO F T E Z B U V):(prog.info? E).map (·.size)=some Z:=by
 grind [inf]
theorem LO.rsz (I:LO F T E Z B U V) (w:World):(Go.sizeOf E).run prog w=.ok Z w:=by
 obtain⟨i0,z,h,_,h2,_⟩:=I.inf
 simp[sizeOf,typeInfo,h,h2]
theorem mz {c Z:Nat} (hi:i<n) (hc:n<=c):(i+1) * Z=i * Z+Z/\(n-i) * Z=n * Z-i * Z/\i * Z+Z<=n * Z/\n * Z<=c * Z/\(n+1) * Z=n * Z+Z/\(n+1-i) * Z=n * Z+Z-i * Z:=by
 have h1:(i+1) * Z<=n * Z:=Nat.mul_le_mul_right Z hi
 simp_all [Nat.succ_mul,Nat.sub_mul,Nat.mul_le_mul_right]
theorem aDy (I:LO F T E Z B U V) (w:World) (b n c i l p:Nat) (cur va:Array Value) (hb:w.heap[b]? = some (.cells cur E (0,0))) (hi:i<n) (G:n+1<=c) (KJ:c<=maxLen) (R:cur.size=c * Z) (hvb:l≠b)
 (D:w.heap[l]? = some (.cells va E (0,0))) (RI:Z<=va.size) (h1v:∀v∈va.toList.take Z,v.oneCell'=true) (h1c:∀v∈cur.toList.take (n * Z),v.oneCell'=true) (J A2:List Value)
 (hA1:J=cur.toList.take ((i+1) * Z)++(cur.toList.take (n * Z)).drop (i * Z)++cur.toList.drop ((i+1) * Z+(n-i) * Z)) (hA2:A2=J.take (i * Z)++va.toList.take Z++J.drop (i * Z+Z)) :
 Calls prog F #[.slice (some ⟨b,0,none⟩) n c,.int .i64 i,.slice (some ⟨l,0,none⟩) 1 p] w fun e w' =>
  e=.returned (.slice (some ⟨b,0,none⟩) (n+1) c)/\w'=(w.drew.setRow b J.toArray).setRow b A2.toArray:=by
 have u54':∀w,(underlying T).run prog w=.ok (.slice E) w:=fun w=>run_underlying I.ul w
 have mixed:=mixed
 obtain⟨N,z2,z3,z4,z5,z6⟩:=mz (Z:=Z) hi (show n<=c from WF)
 have z7:(n+1) * Z<=c * Z:=Nat.mul_le_mul_right Z G
 have hZ:=I.hZ
 have hz2:¬((i:Int)=(n:Int)):=WF
 have Ry:i<=n:=WF
 have DG:i64.wrap ((i:Int)+1)=(i:Int)+1:=by grind [IntKind.wrap_i64,maxLen]
 have YR:i64.wrap ((n:Int)+1)=(n:Int)+1:=by grind [IntKind.wrap_i64,maxLen]
 have XF:(0:Int)<=(i:Int)+1:=WF
 have htn:((i:Int)+1).toNat=i+1:=WF
 have htn2:((n:Int)+1).toNat=n+1:=WF
 have NX:¬(c=i+1):=WF
 have hb3:(i:Int)<=(n:Int)+1:=WF
 have hb4:¬(c=i):=WF
 have hb5:¬((c:Int)<(n:Int)+1):=WF
 have hs63:=I.rsz
 have r:((cur.toList.take (n * Z)).drop (i * Z)).length=(n-i) * Z:=by
  grind
 have hov:∀lb cb,(callFunc U #[.slice (some ⟨l,0,none⟩) 1 p,.slice (some ⟨b,(i+1) * Z,none⟩) lb cb]).run prog w=.ok (.value (.bool false)) w:=fun lb cb=>by
  obtain⟨fo,m,u,o3,o4,o5⟩:=I.ov
  rw[run_callFunc_extern m u o3 o4 (e:=Extern.SlicesOverlaps.overlaps #[T,T] #[4]) o5,
   Lib.run_overlaps_apart w T 4 E I.ul Z I.rsz ⟨l,0,none⟩ ⟨b,(i+1) * Z,none⟩ 1 p lb cb hvb E E va.size cur.size (by simp[World.shape?,D]) (by simp[World.shape?,hb]) WF (by simp[World.frozen?,D]) (by simp[World.frozen?,D])]
  rfl
 have hcp1:∀ty M sc,(Builtin.copy_ #[T,T] ty #[.slice (some ⟨b,(i+1) * Z,none⟩) (n-i) M,.slice (some ⟨b,i * Z,none⟩) (n+1-i) sc]).run prog w.drew=.ok (goInt (Nat.min (n+1-i) (n-i))) (w.drew.setRow b J.toArray):=fun ty M sc=>by
  have h:=xV (P:=prog) w.drew T T ty E Z b ((i+1) * Z) (n-i) M ⟨b,i * Z,none⟩ (n+1-i) sc cur E ((cur.toList.take (n * Z)).drop (i * Z)) I.ul I.sz hb qg
   (fun j v Y=>by
    grind [Addr.add_lit,cell_of_row,World.drew]) WF (fun v C=>h1c v (mem_of_mem_drop C))
  simp_all
 obtain⟨A,S⟩:∃A,A=w.drew.setRow b J.toArray:=⟨_,rfl⟩
 have hbA:A.heap[b]? = some (.cells J.toArray E (0,0)):=by grind [setRow_heap,World.drew]
 have hvA:A.heap[l]? = some (.cells va E (0,0)):=by grind [setRow_other,World.drew]
 have hA1l:J.length=c * Z:=by
  rw[hA1];simp only[length_append,r,length_take,length_drop,Array.length_toList,R];omega
 have hcp2:∀(W:World),W.heap=A.heap->∀ty M,(Builtin.copy_ #[T,T] ty #[.slice (some ⟨b,i * Z,none⟩) (n+1-i) M,.slice (some ⟨l,0,none⟩) 1 p]).run prog W=.ok (goInt (Nat.min 1 (n+1-i))) (W.setRow b A2.toArray):=fun W hW ty M=>by
  have aHn:(va.toList.take Z).length=Z:=qg
  have h:=xV (P:=prog) W T T ty E Z b (i * Z) (n+1-i) M ⟨l,0,none⟩ 1 p J.toArray E (va.toList.take Z) I.ul I.sz (by rw[hW];exact hbA) Qcd
   (fun j v Y=>by
    grind [Addr.add_lit,cell_of_row]) qg h1v
  grind
 rw[<- S] at hcp1;have ulT:=I.ul
 obtain⟨fn,hf,hbd,nt,X⟩:=I.fn
 clear N z2 z3 z4 z5 z6 z7 hZ
 refine calls_of_wp hf hbd ?_
 simp only[nt,size_toArray,length_cons,length_nil,Nat.reduceAdd,Nat.reduceSub,Array.replicate_succ,Array.replicate_zero,List.push_toArray,List.append_toArray,nil_append,cons_append,gz,Tryz.f225,Option.getD_some,Wh,O0,N9,List.map_toArray,map_cons,map_nil,Nat.reduceEqDiff,if_true,if_false,↓reduceIte];go_wp2_with (simp only[hov])
 go_region_law (refine HE rfl _ _ T T rfl _ _ my my (hcp1 _ _ _) ?_)
 go_wp2_with (at_builtin;refine Ug rfl _ _ T T rfl _ _ rfl rfl (hcp2 _ rfl _ _) ?_)
 (try simp only[Exit.inBlock,Exit.then]);refine bodyPost_ret (results_tmp X _ _ _) rfl ?_
 exact⟨rfl,qg⟩
theorem aHo (I:LO F T E Z B U V) (w:World) (b n i l vc:Nat) (cur va:Array Value) (hb:w.heap[b]? = some (.cells cur E (0,0))) (hi:i<n) (hnm:n<=1000000) (Tq:cur.size=n * Z)
 (D:w.heap[l]? = some (.cells va E (0,0))) (RI:Z<=va.size) (h1v:∀v∈va.toList.take Z,v.oneCell'=true) (h1c:∀v∈cur.toList,v.oneCell'=true) :
 Calls prog F #[.slice (some ⟨b,0,none⟩) n n,.int .i64 i,.slice (some ⟨l,0,none⟩) 1 vc] w fun e w'=>∃(G:Nat) (A m B2:List Value),n+1<=G/\G<=maxLen/\A.length=G * Z/\A.take (i * Z)=cur.toList.take (i * Z) /\
  m=A.take (i * Z)++va.toList.take Z++A.drop (i * Z+Z)/\B2=m.take ((i+1) * Z)++cur.toList.drop (i * Z)++m.drop ((i+1) * Z+(n-i) * Z) /\
  e=.returned (.slice (some ⟨w.heap.size,0,none⟩) (n+1) G)/\w'=((w.drew.alloc (.cells A.toArray E)).setRow w.heap.size m.toArray).drew.setRow w.heap.size B2.toArray:=by
 have u54':∀w,(underlying T).run prog w=.ok (.slice E) w:=fun w=>run_underlying I.ul w
 have u3':∀w,(underlying 3).run prog w=.ok (.int .i64) w:=run_underlying ul3
 have mixed:=mixed
 obtain⟨i0,z0,hi0,r,u,hby,J⟩:=I.inf
 have hbw:b<w.heap.size:=(Array.getElem?_eq_some_iff.1 hb).1
 have hvw:l<w.heap.size:=(Array.getElem?_eq_some_iff.1 D).1
 have hbN:b≠w.heap.size:=WF
 have hvN:l≠w.heap.size:=WF
 have hz2:¬((i:Int)=(n:Int)):=WF
 have Ry:i<=n:=WF
 have DG:i64.wrap ((i:Int)+1)=(i:Int)+1:=QbN
 have YR:i64.wrap ((n:Int)+1)=(n:Int)+1:=QbN
 have hkk:(n:Int)+1-(i:Int)=((n+1-i:Nat):Int):=WF
 have hw3:i64.wrap ((n:Int)+1-(i:Int))=(n:Int)+1-(i:Int):=QbN
 have XF:(0:Int)<=(i:Int)+1:=WF
 have htn:((i:Int)+1).toNat=i+1:=WF
 have hb3:(i:Int)+1<=(n:Int)+1:=WF
 have hb4:¬(n=i):=WF
 have hb5:(n:Int)<(n:Int)+1:=WF
 have hs63:=I.rsz
 have hik:i+(n+1-i)=n+1:=WF
 obtain⟨G,p⟩:∃G,G=grownCap w (n+1) n E:=⟨_,rfl⟩
 have hGn:n+1<=G:=by grind [grownCap_ge]
 obtain⟨N,z2,z3,z4,z5,z6⟩:=mz (Z:=Z) hi (Nat.le_refl n)
 have z7:(n+1) * Z<=G * Z:=Nat.mul_le_mul_right Z hGn
 have z8:=Nat.sub_mul G (n+1) Z
 have hZ:=I.hZ
 have hB:=I.hB
 have hGm:G<=maxLen:=by grind [grownCap_le_maxLen,maxLen]
 have hG63:G<=9223372036854775807:=by unfold maxLen at hGm;omega
 obtain⟨A,hR0⟩:∃A:Array Value,A=(cur.toList.take (i * Z)).toArray++Builtin.zeroCells z0.cells (n+1-i)++Builtin.zeroCells z0.cells (G-(n+1)):=⟨_,rfl⟩
 have hold:(Builtin.firstCells i0.size i (.slice (some ⟨b,0,none⟩) i n)).run prog w.drew=.ok (cur.toList.take (i * Z)).toArray w.drew:=by
  grind [run_firstCells_some,World.drew,Addr.add_lit,cell_of_row]
 have hrz:∀ty,(Builtin.append_ #[T,3] ty #[.slice (some ⟨b,0,none⟩) i n,.int .i64 ((n:Int)+1-(i:Int))]).run prog w=.ok (.slice (some ⟨w.heap.size,0,none⟩) (n+1) G) (w.drew.alloc (.cells A E)):=fun ty=>by
  have h:=Lib.run_append_grow_zeros w T 3 ty E i0 z0 .i64 .i64 I.ul ul3 hi0 r (some ⟨b,0,none⟩) i n (cur.toList.take (i * Z)) hold (n+1-i) WF (by rw[u];omega) WF WF (by rw[hby];exact Nat.le_trans (Nat.mul_le_mul (show _<=1000001 from WF) hB) ZB) (by rw[hby,hik];exact growslice_fits WF (Nat.le_trans (Nat.mul_le_mul (show n+1<=1000001 from WF) hB) ZB))
  grind
 have hR0l:A.size=G * Z:=by
  grind [size_zeroCells]
 obtain⟨W1,S⟩:∃W1,W1=w.drew.alloc (.cells A E):=⟨_,rfl⟩
 have hN1:W1.heap[w.heap.size]? = some (.cells A E (0,0)):=by rw[S];exact heap_alloc_new w.drew _
 have hO1:∀k,k<w.heap.size->W1.heap[k]? = w.heap[k]?:=fun k hk=>by rw[S];exact heap_alloc_old w.drew _ hk
 have aHn:(va.toList.take Z).length=Z:=qg
 obtain⟨m,hB1⟩:∃m,m=A.toList.take (i * Z)++va.toList.take Z++A.toList.drop (i * Z+Z):=⟨_,rfl⟩
 obtain⟨B2,hB2⟩:∃B2,B2=m.take ((i+1) * Z)++cur.toList.drop (i * Z)++m.drop ((i+1) * Z+(n-i) * Z):=⟨_,rfl⟩
 have aK8:m.length=G * Z:=by
  rw[hB1];simp only[length_append,aHn,length_take,length_drop,Array.length_toList,hR0l];omega
 rw[<- S] at hrz;have aQa:∀ty M,(Builtin.copy_ #[T,T] ty #[.slice (some ⟨w.heap.size,i * Z,none⟩) (n+1-i) M,.slice (some ⟨l,0,none⟩) 1 vc]).run prog W1=.ok (goInt (Nat.min 1 (n+1-i))) (W1.setRow w.heap.size m.toArray):=fun ty M=>by
  have h:=xV (P:=prog) W1 T T ty E Z w.heap.size (i * Z) (n+1-i) M ⟨l,0,none⟩ 1 vc A E (va.toList.take Z) I.ul I.sz hN1 Qcd
   (fun j v Y=>by
    grind [Addr.add_lit,cell_of_row]) WF h1v
  grind
 obtain⟨W2,hW2⟩:∃W2,W2=W1.setRow w.heap.size m.toArray:=⟨_,rfl⟩
 rw[<- hW2] at aQa;have hN2:W2.heap[w.heap.size]? = some (.cells m.toArray E (0,0)):=by grind [setRow_heap]
 have hO2:∀k,k<w.heap.size->W2.heap[k]? = w.heap[k]?:=fun k hk=>by grind [setRow_other]
 have Q9:(cur.toList.drop (i * Z)).length=(n-i) * Z:=qg
 have hcpB:∀ty M sc,(Builtin.copy_ #[T,T] ty #[.slice (some ⟨w.heap.size,(i+1) * Z,none⟩) (n-i) M,.slice (some ⟨b,i * Z,none⟩) (n-i) sc]).run prog W2.drew=.ok (goInt (Nat.min (n-i) (n-i))) (W2.drew.setRow w.heap.size B2.toArray):=fun ty M sc=>by
  have h:=xV (P:=prog) W2.drew T T ty E Z w.heap.size ((i+1) * Z) (n-i) M ⟨b,i * Z,none⟩ (n-i) sc m.toArray E (cur.toList.drop (i * Z)) I.ul I.sz hN2 qg
   (fun j v Y=>by
    grind [Addr.add_lit,cell_of_row,World.drew]) (by rw[Q9,size_toArray,aK8];omega) (fun v C=>h1c v (mem_of_mem_drop C))
  rw[Q9] at h;grind
 have hGi:¬(G=i):=WF
 have hGim:¬(G=i+1):=WF
 have hRt:A.toList.take (i * Z)=cur.toList.take (i * Z):=by
  rw[hR0];simp only[Array.toList_append,append_assoc];grind
 clear hkk hik hold hi0 r
 refine Calls.mono (R:=fun e w'=>e=.returned (.slice (some ⟨w.heap.size,0,none⟩) (n+1) G)/\w'=W2.drew.setRow w.heap.size B2.toArray) ?_ (fun e w' h=>⟨G,A.toList,m,B2,hGn,hGm,WF,hRt,hB1,hB2,h.1,by rw[h.2,hW2,S]⟩)
 have hcpA':=aQa
 have hcpB':=hcpB
 clear hRt aK8 hB2 hB1 hR0 p aQa hcpB hN1 hO1 hN2 hO2 Q9 aHn hR0l J u hby S hW2
 have ulT:=I.ul
 obtain⟨fn,W,hbd,nt,X⟩:=I.fn
 clear N z2 z3 z4 z5 z6 z7 hZ
 refine calls_of_wp W hbd ?_
 simp only[nt,size_toArray,length_cons,length_nil,Nat.reduceAdd,Nat.reduceSub,Array.replicate_succ,Array.replicate_zero,List.push_toArray,List.append_toArray,nil_append,cons_append,gz,Tryz.f225,Option.getD_some,Wh,O0,N9,List.map_toArray,map_cons,map_nil,Nat.reduceEqDiff,if_true,if_false,↓reduceIte];go_wp2_with (first
  | (at_builtin;refine Lib.wpList_append_run _ rfl _ _ _ _ rfl _ _ rfl rfl _ _ (hrz _) ?_)
  | (at_builtin;refine Ug rfl _ _ T T rfl _ _ rfl rfl (hcpA' _ _) ?_))
 go_region_law (refine HE rfl _ _ T T rfl _ _ my my (hcpB' _ _ _) ?_)
 go_wp2
 (try simp only[Exit.inBlock,Exit.then]);refine bodyPost_ret (results_tmp X _ _ _) rfl ?_
 exact⟨rfl,rfl⟩
theorem TX (I:LO F T E Z B U V) {w:World} {v0 v2:Value} {xs ys:List Value} (h:kK w 0 E Z v0 n xs) (h2:kK w 0 E Z v2 1 ys) (S:∀b,cW v0=some b->cW v2≠some b)
 (o1:∀y∈xs,y.oneCell'=true) (u:∀y∈ys,y.oneCell'=true) (hi:i<n) (M:n<=1000000) :
 Calls prog F #[v0,.int .i64 i,v2] w fun e w'=>∃v,e=.returned v/\w.grownBy w' (cW v0)/\kK w' 0 E Z v (n+1) (xs.take (i * Z)++ys++xs.drop (i * Z))/\∀b,cW v=some b->cW v0=some b\/w.heap.size<=b:=by
 obtain⟨hxl,h⟩:=h
 obtain⟨hyl,h2⟩:=h2
 rcases h with ⟨p,_,h0⟩|⟨b,c,cur,rfl,_,hb,W,N,R,TU,A⟩
 ·omega
 rcases h2 with ⟨p,_,h0⟩|⟨l,vc,va,rfl,_,D,hvc,hvm,RI,KL,Y⟩
 ·omega
 obtain⟨z1,z2,z3,z4,z5,z6⟩:=mz (Z:=Z) hi W
 have hZ:=I.hZ
 have hbk:cW (.slice (some ⟨b,0,none⟩) n c)=some b:=gK A
 have hvb:l≠b:=fun e=>S b hbk (by rw[gK Y,e])
 have aK9:va.toList.take Z=ys:=qg
 have hvs':Z<=va.size:=qg
 have hyl':ys.length=Z:=WF
 have hlen:(xs.take (i * Z)++ys++xs.drop (i * Z)).length=(n+1) * Z:=by
  grind
 have hct:cur.toList.length=c * Z:=WF
 rw[hbk];by_cases Zl:n+1<=c
 ·have z7:(n+1) * Z<=c * Z:=Nat.mul_le_mul_right Z Zl
  obtain⟨J,hA1⟩:∃J,J=cur.toList.take ((i+1) * Z)++(cur.toList.take (n * Z)).drop (i * Z)++cur.toList.drop ((i+1) * Z+(n-i) * Z):=⟨_,rfl⟩
  obtain⟨A2,hA2⟩:∃A2,A2=J.take (i * Z)++va.toList.take Z++J.drop (i * Z+Z):=⟨_,rfl⟩
  have Q9:((cur.toList.take (n * Z)).drop (i * Z)).length=(n-i) * Z:=qg
  have hA1l:J.length=c * Z:=by
   rw[hA1];simp only[length_append,Q9,length_take,length_drop,hct];omega
  have hA2l:A2.length=c * Z:=by
   grind
  refine (aDy I w b n c i l vc cur va hb hi Zl N R hvb D hvs' (by rw[aK9];exact u) (by rw[TU];exact o1) J A2 hA1 hA2).mono ?_
  rintro e w' ⟨rfl,rfl⟩
  refine⟨_,rfl,X6 w b _ _,⟨hlen,.inr ⟨b,c,A2.toArray,rfl,Nat.zero_le _,setRow_heap _ b _ _ E _ (setRow_heap w.drew b cur _ E _ hb),Zl,N,by rw[size_toArray,hA2l], ?_,A⟩⟩,fun X r=>.inl (by rw[<- r,gK A])⟩
  grind
 ·have hcn:c=n:=WF
  subst hcn;have hxc:cur.toList=xs:=qg
  refine (aHo I w b c i l vc cur va hb hi M R D hvs' (by rw[aK9];exact u) (by rw[hxc];exact o1)).mono ?_
  rintro e w' ⟨G,R0,m,C,g1,g2,g3,g4,g5,g6,rfl,rfl⟩
  have z7:=Nat.mul_le_mul_right Z g1
  have Q9:(cur.toList.drop (i * Z)).length=(c-i) * Z:=qg
  have aK8:m.length=G * Z:=by
   rw[g5,aK9];simp only[length_append,hyl',length_take,length_drop,g3];omega
  have hB2l:C.length=G * Z:=by
   rw[g6];simp only[length_append,Q9,length_take,length_drop,aK8];omega
  have hG0:0<G:=WF
  refine⟨_,rfl,X7 w _ _ _ _,⟨hlen,.inr ⟨w.heap.size,G,C.toArray,rfl,Nat.zero_le _, ?_,g1,g2,WF, ?_,hG0⟩⟩,fun X r=>.inr ?_⟩
  ·grind [World.setRow,World.drew,heap_alloc_new]
  ·show C.take ((c+1) * Z)=_
   rw[<- hxc];have e1:m.take ((i+1) * Z)=cur.toList.take (i * Z)++ys:=by
    rw[g5,aK9,g4];apply List.take_left'
    simp only[length_append,hyl',length_take,hct];omega
   grind
  grind [gK]
end Go.Ab.Tryz
end
namespace Go.Ab.Tryz
open Classical Go.Proofs Go.Ab
variable {E Z:Nat}
def three {C:Ctx} {x y z:AV} {vs:Array Value} (h:jD C [x,y,z] vs.toList):∃a b c,vs=#[a,b,c]/\cD C x a/\cD C y b/\cD C z c:=by
 have hl:=h.len
 cases e:vs.toList with
 | nil=>grind
 | cons a r=>cases r with
   | nil=>grind
   | cons b r=>cases r with
     | nil=>grind
     | cons c r=>cases r with
       | cons _ _=>grind
       | nil=>exact⟨a,b,c,Array.ext' e,h.rel 0 x a rfl (by rw[e];rfl),h.rel 1 y b rfl (by rw[e];rfl),h.rel 2 z c rfl (by rw[e];rfl)⟩
def X8 {g:Nat} (hE:Enters prog g) (own:∀ {w:World} {v0 v2:Value} {n i:Nat} {xs ys:List Value},kK w 0 E Z v0 n xs->kK w 0 E Z v2 1 ys->(∀b,cW v0=some b->cW v2≠some b)->(∀y∈xs,y.oneCell'=true)->(∀y∈ys,y.oneCell'=true)->i<n->n<=1000000 ->
 Calls prog g #[v0,.int .i64 i,v2] w fun e w'=>∃v,e=.returned v/\w.grownBy w' (cW v0)/\kK w' 0 E Z v (n+1) (xs.take (i * Z)++ys++xs.drop (i * Z))/\∀b,cW v=some b->cW v0=some b\/w.heap.size<=b) :
 Pf prog fun g' xs st=>bif g' == g then zK E Z xs st else none:=fun g' xs st r s' h=>by
 cases hg:g' == g with
 | false=>grind
 | true =>
   simp only[hg,cond_true] at h;have hg:g'=g:=dn
   subst hg;refine⟨hE,fun F h0 w0 nt ρ a w vs K S gS hK=>?_⟩
   unfold zK at h;split at h
   ·rename_i s k i s2 l;split at h
    ·rename_i e sz n cs e2 sz2 m r0 he u;split at h
     ·rename_i G;obtain⟨J,h2,h3,X,rfl,i0,i1,M,mC⟩:=G
      have J:=J.symm;have h2:=h2.symm;have h3:=h3.symm;have X:=X.symm
      subst J h2 h3 X;simp only[cQ,Prod.mk.injEq] at h;obtain⟨rfl,rfl⟩:=h
      obtain⟨v0,v1,v2,rfl,q0,q1,N⟩:=three gS
      have e0:v0=ρ s k:=by cases q0;rfl
      have e1:v1=.int .i64 i:=by cases q1;rfl
      have e2:v2=ρ s2 l:=by cases N;rfl
      subst e0 e1 e2;obtain⟨_,_,ys,p,D⟩:=S.tG s k _ he
      obtain⟨_,_,zs,ho2,hcell2⟩:=S.tG s2 l _ u
      obtain⟨j,rfl⟩:∃j:Nat,i=(j:Int):=⟨i.toNat,WF⟩
      refine (own (n:=n) (wX p (Nat.zero_le _)) (wX ho2 (Nat.zero_le _)) (fun b hb NX=>?_) (fun y Y=>?_) (fun y Y=>?_) (show j<n from WF) M).mono ?_
      ·grind [kI.inj]
      ·grind [List.getElem?_of_mem,dN.one]
      ·grind [List.getElem?_of_mem,dN.one]
      rintro en w' ⟨v,rfl,hg,R,hzb⟩
      refine⟨v,rfl, ?_⟩
      have vE:∀b,cW (ρ s k)=some b->w0.heap.size<=b:=fun b hb=>(As p b hb).1
      obtain⟨S',kk,W⟩:=S.QS he hg s (.row E Z (n+1) (cs.take (j * Z)++r0++cs.drop (j * Z))) v (pI R) hzb (fun C kC=>⟨_,Hw R (fun b hb=>by
       rcases hzb b hb with h|h
       ·exact vE b h
       ·have:=S.ext.size;omega),(((D.take _).app hcell2).app (D.drop _)).le kC⟩)
      refine hK _ w' v S' ?_
      have A:st.aJ s<(ctx h0 w0 (sD ρ s (st.aJ s) v) ((st.gV s k none).new s (.row E Z (n+1) (cs.take (j * Z)++r0++cs.drop (j * Z)))) w').aJ s:=mw
      have lP:(ctx h0 w0 (sD ρ s (st.aJ s) v) ((st.gV s k none).new s (.row E Z (n+1) (cs.take (j * Z)++r0++cs.drop (j * Z)))) w').ρ s (st.aJ s)=v:=W
      have:=cD.own (C:=ctx h0 w0 (sD ρ s (st.aJ s) v) ((st.gV s k none).new s (.row E Z (n+1) (cs.take (j * Z)++r0++cs.drop (j * Z)))) w') s (st.aJ s) A (by rw[lP];exact pI R)
      rw[lP] at this;exact this
     ·cases h
    ·cases h
   ·cases h
def X9 {B:Nat} (h:((prog.info? E).bind fun i=>i.zero.map fun z=>(i.size,i.bytes,z.cells.size))=some (Z,B,Z)):∃i0 z,prog.info? E=some i0/\i0.zero=some z/\i0.size=Z/\i0.bytes=B/\z.cells.size=Z:=by
 cases hi:prog.info? E<;>simp_all
def aXZ:LO 225 53 102 35 56 292 293:=⟨⟨_,func225,WP,WP,WP⟩,WP,X9 WP,ZB,ZB,⟨_,func292,WP,WP,WP,WP⟩⟩
def aX0:LO 151 50 74 34 64 218 219:=⟨⟨_,func151,WP,WP,WP⟩,WP,X9 WP,ZB,ZB,⟨_,func218,WP,WP,WP,WP⟩⟩
def aX1:LO 148 22 3 1 8 215 216:=⟨⟨_,func148,WP,WP,WP⟩,WP,X9 WP,ZB,ZB,⟨_,func215,WP,WP,WP,WP⟩⟩
def aQb:Pf prog Ext.Zy:=fun g xs st r D h=>by
 have h:lg g xs st=some (r,D):=h
 unfold lg at h;cases hg:g == 225 with
 | true =>
   obtain rfl:g=225:=dn
   exact X8 ⟨Tryz.f225,func225,WP,rfl⟩ (TX aXZ) 225 xs st r D h
 | false =>
   rw[hg] at h;cases hg:g == 151 with
   | true =>
     obtain rfl:g=151:=dn
     exact X8 ⟨Tryz.f151,func151,WP,rfl⟩ (TX aX0) 151 xs st r D h
   | false =>
     rw[hg] at h;cases hg:g == 148 with
     | true =>
       obtain rfl:g=148:=dn
       exact X8 ⟨Tryz.f148,func148,WP,rfl⟩ (TX aX1) 148 xs st r D h
     | false =>
       grind
open Go.RowKit Go
def aLa:Ze prog:=⟨aC9 aP4 aPZ aXN aP6,aQb⟩
def aLb:@Ze E2 prog:=⟨fun g xs r h=>by
 have h:(bif kr g then none else @aA E1 prog g xs)=some r:=h
 cases e:kr g with
 | true=>grind
 | false =>
   rw[e] at h;obtain⟨n,M⟩:=(oC prog).1 h
   exact U5 mixed aLa n g xs r M,fun _ _ _ _ _ h=>wu⟩
def aX2 (l:List Int) (W:(l.length:Int)<=9223372036854775807) (w:World) (vs:Array Value) (X:jD (bare fun k o=>w.heap[k]? = some o) [.sl l.length (aH l)] vs.toList) :
 Calls prog 3 vs w fun e w'=>e=.returned (.bool true)/\Below w.heap.size w w':=@aLc E2 prog mixed aLb 3 _ true (c3 l W) rfl w vs X
end Go.Ab.Tryz
