/-
  Part 8 of the proof: an evaluator of programs, its soundness, and what functions of this program compute.
-/
import Derived.Test.YtmcjkemalibacaaGreatK7
import Derived.Test.YtmcjkemalibacaaGreatProg
import Derived.KernelRfl
set_option linter.all false
set_option maxRecDepth 20000
set_option maxHeartbeats 40000000
namespace Go.Ab.Tryz
open Classical Go.Proofs Go.Ab
theorem mixed:Tryz.prog.follows .mixedOrders=true:=by kernel_rfl
theorem ld3 (cs:List AV) (o:Nat):ldAt Tryz.prog 3 cs o=cs[o]?:=by
 have:ldInfo Tryz.prog 3=some (false,1):=by kernel_rfl
 simp only[ldAt,this]
theorem ik3:intKind Tryz.prog 3=some .i64:=by kernel_rfl
theorem lk3:ldK Tryz.prog 3=some 1:=by kernel_rfl
theorem ze3:zeroL Tryz.prog 3=some [.int .i64 0]:=by kernel_rfl
theorem ld23 (cs:List AV) (o:Nat):ldAt Tryz.prog 23 cs o=cs[o]?:=by
 have:ldInfo Tryz.prog 23=some (false,1):=by kernel_rfl
 simp only[ldAt,this]
theorem ik23:intKind Tryz.prog 23=some .u64:=by kernel_rfl
theorem lk23:ldK Tryz.prog 23=some 1:=by kernel_rfl
theorem ze23:zeroL Tryz.prog 23=some [.int .u64 0]:=by kernel_rfl
theorem ik61:intKind Tryz.prog 61=some .u64:=by kernel_rfl
theorem lk61:ldK Tryz.prog 61=some 1:=by kernel_rfl
theorem ze61:zeroL Tryz.prog 61=some [.int .u64 0]:=by kernel_rfl
theorem ld5 (cs:List AV) (o:Nat):ldAt Tryz.prog 5 cs o=cs[o]?:=by
 have:ldInfo Tryz.prog 5=some (false,1):=by kernel_rfl
 simp only[ldAt,this]
theorem ik5:intKind Tryz.prog 5=some .u8:=by kernel_rfl
theorem lk5:ldK Tryz.prog 5=some 1:=by kernel_rfl
theorem ze5:zeroL Tryz.prog 5=some [.int .u8 0]:=by kernel_rfl
theorem ld2 (cs:List AV) (o:Nat):ldAt Tryz.prog 2 cs o=cs[o]?:=by
 have:ldInfo Tryz.prog 2=some (false,1):=by kernel_rfl
 simp only[ldAt,this]
theorem ik2:intKind Tryz.prog 2=some .i64:=by kernel_rfl
theorem lk2:ldK Tryz.prog 2=some 1:=by kernel_rfl
theorem ze2:zeroL Tryz.prog 2=some [.int .i64 0]:=by kernel_rfl
theorem ik64:intKind Tryz.prog 64=some .i64:=by kernel_rfl
theorem lk64:ldK Tryz.prog 64=some 1:=by kernel_rfl
theorem ze64:zeroL Tryz.prog 64=some [.int .i64 0]:=by kernel_rfl
theorem ld4 (cs:List AV) (o:Nat):ldAt Tryz.prog 4 cs o=cs[o]?:=by
 have:ldInfo Tryz.prog 4=some (false,1):=by kernel_rfl
 simp only[ldAt,this]
theorem lk4:ldK Tryz.prog 4=some 1:=by kernel_rfl
theorem ze4:zeroL Tryz.prog 4=some [.bool false]:=by kernel_rfl
theorem be4 (a b:Bool):binA Tryz.prog .eql 4 (.v (.bool a)) (.v (.bool b))=some (.v (.bool (a == b))):=by
 have:Tryz.prog.underlying 4=some .bool:=by kernel_rfl
 simp only[binA,this]
theorem ld27 (cs:List AV) (o:Nat) (h:32≤cs.length - o):ldAt Tryz.prog 27 cs o=some (.agg (rd cs o 32)):=by
 have:ldInfo Tryz.prog 27=some (true,32):=by kernel_rfl
 simp[ldAt,this,h]
theorem lk27:ldK Tryz.prog 27=some 32:=by kernel_rfl
theorem ze27:zeroL Tryz.prog 27=some vRoot:=by kernel_rfl
theorem eq27 (a b:Root):eqAgg Tryz.prog 27 (cRoot a) (cRoot b)=some (decide (a=b)):=eqAgg_of (l:=lRoot) (by kernel_rfl) (by kernel_rfl) (by kernel_rfl) (leafy_root a b) (cRoot_inj a b)
theorem be27 (a b:Root):binA Tryz.prog .eql 27 (.agg (cRoot a)) (.agg (cRoot b))=some (.v (.bool (decide (a=b)))):=by simp only[binA,eq27,Option.map_some]
theorem bn27 (a b:Root):binA Tryz.prog .neq 27 (.agg (cRoot a)) (.agg (cRoot b))=some (.v (.bool (!(decide (a=b))))):=by simp only[binA,eq27,Option.map_some]
theorem ar27:arrInfo Tryz.prog 27=some (32,1):=by kernel_rfl
theorem bu27 (st:St) (parts:List (Nat × Operand)):buildA Tryz.prog st 27 parts=if (parts.all fun p=>(st.ev p.2).stor)=true then (fillA (fun i=>some (i * 1,1)) (cRoot zRoot) (parts.map fun p=>(p.1,st.ev p.2))).map .agg else none:=build_of (z:=vRoot) (by kernel_rfl) vRoot_c (placeArr_eq (by kernel_rfl))
theorem ld33 (cs:List AV) (o:Nat) (h:4≤cs.length - o):ldAt Tryz.prog 33 cs o=some (.agg (rd cs o 4)):=by
 have:ldInfo Tryz.prog 33=some (true,4):=by kernel_rfl
 simp[ldAt,this,h]
theorem lk33:ldK Tryz.prog 33=some 4:=by kernel_rfl
theorem ze33:zeroL Tryz.prog 33=some vWide:=by kernel_rfl
theorem ar33:arrInfo Tryz.prog 33=some (4,1):=by kernel_rfl
theorem bu33 (st:St) (parts:List (Nat × Operand)):buildA Tryz.prog st 33 parts=if (parts.all fun p=>(st.ev p.2).stor)=true then (fillA (fun i=>some (i * 1,1)) (cWide zWide) (parts.map fun p=>(p.1,st.ev p.2))).map .agg else none:=build_of (z:=vWide) (by kernel_rfl) vWide_c (placeArr_eq (by kernel_rfl))
theorem ld41 (cs:List AV) (o:Nat) (h:33≤cs.length - o):ldAt Tryz.prog 41 cs o=some (.agg (rd cs o 33)):=by
 have:ldInfo Tryz.prog 41=some (true,33):=by kernel_rfl
 simp[ldAt,this,h]
theorem lk41:ldK Tryz.prog 41=some 33:=by kernel_rfl
theorem fo41_0:fieldOff Tryz.prog 41 0=some 0:=by kernel_rfl
theorem fo41_1:fieldOff Tryz.prog 41 1=some 1:=by kernel_rfl
theorem ze41:zeroL Tryz.prog 41=some vCkpt:=by kernel_rfl
theorem eq41 (a b:Ckpt):eqAgg Tryz.prog 41 (cCkpt a) (cCkpt b)=some (decide (a=b)):=eqAgg_of (l:=lCkpt) (by kernel_rfl) (by kernel_rfl) (by kernel_rfl) (leafy_Ckpt a b) (cCkpt_inj a b)
theorem be41 (a b:Ckpt):binA Tryz.prog .eql 41 (.agg (cCkpt a)) (.agg (cCkpt b))=some (.v (.bool (decide (a=b)))):=by simp only[binA,eq41,Option.map_some]
theorem bn41 (a b:Ckpt):binA Tryz.prog .neq 41 (.agg (cCkpt a)) (.agg (cCkpt b))=some (.v (.bool (!(decide (a=b))))):=by simp only[binA,eq41,Option.map_some]
theorem bu41 (st:St) (parts:List (Nat × Operand)):buildA Tryz.prog st 41 parts=if (parts.all fun p=>(st.ev p.2).stor)=true then (fillA (fun i=>([(0,1),(1,32)]:List (Nat × Nat))[i]?) (cCkpt zCkpt) (parts.map fun p=>(p.1,st.ev p.2))).map .agg else none:=build_of (z:=vCkpt) (by kernel_rfl) vCkpt_c (placeTab_eq (by kernel_rfl))
theorem ld72 (cs:List AV) (o:Nat) (h:66≤cs.length - o):ldAt Tryz.prog 72 cs o=some (.agg (rd cs o 66)):=by
 have:ldInfo Tryz.prog 72=some (true,66):=by kernel_rfl
 simp[ldAt,this,h]
theorem lk72:ldK Tryz.prog 72=some 66:=by kernel_rfl
theorem fo72_0:fieldOff Tryz.prog 72 0=some 0:=by kernel_rfl
theorem fo72_1:fieldOff Tryz.prog 72 1=some 33:=by kernel_rfl
theorem ze72:zeroL Tryz.prog 72=some vPulled:=by kernel_rfl
theorem bu72 (st:St) (parts:List (Nat × Operand)):buildA Tryz.prog st 72 parts=if (parts.all fun p=>(st.ev p.2).stor)=true then (fillA (fun i=>([(0,33),(33,33)]:List (Nat × Nat))[i]?) (cPulled zPulled) (parts.map fun p=>(p.1,st.ev p.2))).map .agg else none:=build_of (z:=vPulled) (by kernel_rfl) vPulled_c (placeTab_eq (by kernel_rfl))
theorem ld74 (cs:List AV) (o:Nat) (h:238≤cs.length - o):ldAt Tryz.prog 74 cs o=some (.agg (rd cs o 238)):=by
 have:ldInfo Tryz.prog 74=some (true,238):=by kernel_rfl
 simp[ldAt,this,h]
theorem lk74:ldK Tryz.prog 74=some 238:=by kernel_rfl
theorem fo74_0:fieldOff Tryz.prog 74 0=some 0:=by kernel_rfl
theorem fo74_1:fieldOff Tryz.prog 74 1=some 66:=by kernel_rfl
theorem fo74_2:fieldOff Tryz.prog 74 2=some 67:=by kernel_rfl
theorem fo74_3:fieldOff Tryz.prog 74 3=some 99:=by kernel_rfl
theorem fo74_4:fieldOff Tryz.prog 74 4=some 131:=by kernel_rfl
theorem fo74_5:fieldOff Tryz.prog 74 5=some 163:=by kernel_rfl
theorem fo74_6:fieldOff Tryz.prog 74 6=some 167:=by kernel_rfl
theorem fo74_7:fieldOff Tryz.prog 74 7=some 171:=by kernel_rfl
theorem fo74_8:fieldOff Tryz.prog 74 8=some 204:=by kernel_rfl
theorem fo74_9:fieldOff Tryz.prog 74 9=some 237:=by kernel_rfl
theorem ze74:zeroL Tryz.prog 74=some vBlock:=by kernel_rfl
theorem eq74 (a b:Block):eqAgg Tryz.prog 74 (cBlock a) (cBlock b)=some (decide (a=b)):=eqAgg_of (l:=lBlock) (by kernel_rfl) (by kernel_rfl) (by kernel_rfl) (leafy_Block a b) (cBlock_inj a b)
theorem be74 (a b:Block):binA Tryz.prog .eql 74 (.agg (cBlock a)) (.agg (cBlock b))=some (.v (.bool (decide (a=b)))):=by simp only[binA,eq74,Option.map_some]
theorem bu74 (st:St) (parts:List (Nat × Operand)):buildA Tryz.prog st 74 parts=if (parts.all fun p=>(st.ev p.2).stor)=true then (fillA (fun i=>([(0,66),(66,1),(67,32),(99,32),(131,32),(163,4),(167,4),(171,33),(204,33),(237,1)]:List (Nat × Nat))[i]?) (cBlock zBlock) (parts.map fun p=>(p.1,st.ev p.2))).map .agg else none:=build_of (z:=vBlock) (by kernel_rfl) vBlock_c (placeTab_eq (by kernel_rfl))
theorem ld76 (cs:List AV) (o:Nat) (h:240≤cs.length - o):ldAt Tryz.prog 76 cs o=some (.agg (rd cs o 240)):=by
 have:ldInfo Tryz.prog 76=some (true,240):=by kernel_rfl
 simp[ldAt,this,h]
theorem lk76:ldK Tryz.prog 76=some 240:=by kernel_rfl
theorem fo76_0:fieldOff Tryz.prog 76 0=some 0:=by kernel_rfl
theorem fo76_1:fieldOff Tryz.prog 76 1=some 238:=by kernel_rfl
theorem fo76_2:fieldOff Tryz.prog 76 2=some 239:=by kernel_rfl
theorem ze76:zeroL Tryz.prog 76=some vNode:=by kernel_rfl
theorem bu76 (st:St) (parts:List (Nat × Operand)):buildA Tryz.prog st 76 parts=if (parts.all fun p=>(st.ev p.2).stor)=true then (fillA (fun i=>([(0,238),(238,1),(239,1)]:List (Nat × Nat))[i]?) (cNode zNode) (parts.map fun p=>(p.1,st.ev p.2))).map .agg else none:=build_of (z:=vNode) (by kernel_rfl) vNode_c (placeTab_eq (by kernel_rfl))
theorem ld50 (cs:List AV) (o:Nat) (h:1≤cs.length - o):ldAt Tryz.prog 50 cs o=some (.agg (rd cs o 1)):=by
 have:ldInfo Tryz.prog 50=some (true,1):=by kernel_rfl
 simp[ldAt,this,h]
theorem lk50:ldK Tryz.prog 50=some 1:=by kernel_rfl
theorem fo50_0:fieldOff Tryz.prog 50 0=some 0:=by kernel_rfl
theorem ze50:zeroL Tryz.prog 50=some [.slice none 0 0]:=by kernel_rfl
theorem bu50 (st:St) (parts:List (Nat × Operand)):buildA Tryz.prog st 50 parts=if (parts.all fun p=>(st.ev p.2).stor)=true then (fillA (fun i=>([(0,1)]:List (Nat × Nat))[i]?) [.v (.slice none 0 0)] (parts.map fun p=>(p.1,st.ev p.2))).map .agg else none:=build_of (z:=[.slice none 0 0]) (by kernel_rfl) rfl (placeTab_eq (by kernel_rfl))
theorem lk25:ldK Tryz.prog 25=some 1:=by kernel_rfl
theorem fo25_0:fieldOff Tryz.prog 25 0=some 0:=by kernel_rfl
theorem ze25:zeroL Tryz.prog 25=some vTagged:=by kernel_rfl
theorem bu25 (st:St) (parts:List (Nat × Operand)):buildA Tryz.prog st 25 parts=if (parts.all fun p=>(st.ev p.2).stor)=true then (fillA (fun i=>([(0,1)]:List (Nat × Nat))[i]?) (cTagged zTagged) (parts.map fun p=>(p.1,st.ev p.2))).map .agg else none:=build_of (z:=vTagged) (by kernel_rfl) vTagged_c (placeTab_eq (by kernel_rfl))
theorem ld29 (cs:List AV) (o:Nat) (h:34≤cs.length - o):ldAt Tryz.prog 29 cs o=some (.agg (rd cs o 34)):=by
 have:ldInfo Tryz.prog 29=some (true,34):=by kernel_rfl
 simp[ldAt,this,h]
theorem lk29:ldK Tryz.prog 29=some 34:=by kernel_rfl
theorem fo29_0:fieldOff Tryz.prog 29 0=some 0:=by kernel_rfl
theorem fo29_1:fieldOff Tryz.prog 29 1=some 1:=by kernel_rfl
theorem fo29_2:fieldOff Tryz.prog 29 2=some 2:=by kernel_rfl
theorem ze29:zeroL Tryz.prog 29=some vVerdict:=by kernel_rfl
theorem eq29 (a b:Verdict):eqAgg Tryz.prog 29 (cVerdict a) (cVerdict b)=some (decide (a=b)):=eqAgg_of (l:=lVerdict) (by kernel_rfl) (by kernel_rfl) (by kernel_rfl) (leafy_Verdict a b) (cVerdict_inj a b)
theorem be29 (a b:Verdict):binA Tryz.prog .eql 29 (.agg (cVerdict a)) (.agg (cVerdict b))=some (.v (.bool (decide (a=b)))):=by simp only[binA,eq29,Option.map_some]
theorem bu29 (st:St) (parts:List (Nat × Operand)):buildA Tryz.prog st 29 parts=if (parts.all fun p=>(st.ev p.2).stor)=true then (fillA (fun i=>([(0,1),(1,1),(2,32)]:List (Nat × Nat))[i]?) (cVerdict zVerdict) (parts.map fun p=>(p.1,st.ev p.2))).map .agg else none:=build_of (z:=vVerdict) (by kernel_rfl) vVerdict_c (placeTab_eq (by kernel_rfl))
theorem lk31:ldK Tryz.prog 31=some 6:=by kernel_rfl
theorem fo31_0:fieldOff Tryz.prog 31 0=some 0:=by kernel_rfl
theorem fo31_1:fieldOff Tryz.prog 31 1=some 1:=by kernel_rfl
theorem fo31_2:fieldOff Tryz.prog 31 2=some 2:=by kernel_rfl
theorem fo31_3:fieldOff Tryz.prog 31 3=some 3:=by kernel_rfl
theorem fo31_4:fieldOff Tryz.prog 31 4=some 4:=by kernel_rfl
theorem fo31_5:fieldOff Tryz.prog 31 5=some 5:=by kernel_rfl
theorem ze31:zeroL Tryz.prog 31=some vLimits:=by kernel_rfl
theorem bu31 (st:St) (parts:List (Nat × Operand)):buildA Tryz.prog st 31 parts=if (parts.all fun p=>(st.ev p.2).stor)=true then (fillA (fun i=>([(0,1),(1,1),(2,1),(3,1),(4,1),(5,1)]:List (Nat × Nat))[i]?) (cLimits zLimits) (parts.map fun p=>(p.1,st.ev p.2))).map .agg else none:=build_of (z:=vLimits) (by kernel_rfl) vLimits_c (placeTab_eq (by kernel_rfl))
theorem ld36 (cs:List AV) (o:Nat) (h:45≤cs.length - o):ldAt Tryz.prog 36 cs o=some (.agg (rd cs o 45)):=by
 have:ldInfo Tryz.prog 36=some (true,45):=by kernel_rfl
 simp[ldAt,this,h]
theorem lk36:ldK Tryz.prog 36=some 45:=by kernel_rfl
theorem fo36_0:fieldOff Tryz.prog 36 0=some 0:=by kernel_rfl
theorem fo36_1:fieldOff Tryz.prog 36 1=some 6:=by kernel_rfl
theorem fo36_2:fieldOff Tryz.prog 36 2=some 7:=by kernel_rfl
theorem fo36_3:fieldOff Tryz.prog 36 3=some 8:=by kernel_rfl
theorem fo36_4:fieldOff Tryz.prog 36 4=some 12:=by kernel_rfl
theorem fo36_5:fieldOff Tryz.prog 36 5=some 44:=by kernel_rfl
theorem ze36:zeroL Tryz.prog 36=some vConfig:=by kernel_rfl
theorem bu36 (st:St) (parts:List (Nat × Operand)):buildA Tryz.prog st 36 parts=if (parts.all fun p=>(st.ev p.2).stor)=true then (fillA (fun i=>([(0,6),(6,1),(7,1),(8,4),(12,32),(44,1)]:List (Nat × Nat))[i]?) (cConfig zConfig) (parts.map fun p=>(p.1,st.ev p.2))).map .agg else none:=build_of (z:=vConfig) (by kernel_rfl) vConfig_c (placeTab_eq (by kernel_rfl))
theorem ld100 (cs:List AV) (o:Nat) (h:34≤cs.length - o):ldAt Tryz.prog 100 cs o=some (.agg (rd cs o 34)):=by
 have:ldInfo Tryz.prog 100=some (true,34):=by kernel_rfl
 simp[ldAt,this,h]
theorem lk100:ldK Tryz.prog 100=some 34:=by kernel_rfl
theorem fo100_0:fieldOff Tryz.prog 100 0=some 0:=by kernel_rfl
theorem fo100_1:fieldOff Tryz.prog 100 1=some 1:=by kernel_rfl
theorem fo100_2:fieldOff Tryz.prog 100 2=some 2:=by kernel_rfl
theorem ze100:zeroL Tryz.prog 100=some vVote:=by kernel_rfl
theorem bu100 (st:St) (parts:List (Nat × Operand)):buildA Tryz.prog st 100 parts=if (parts.all fun p=>(st.ev p.2).stor)=true then (fillA (fun i=>([(0,1),(1,1),(2,32)]:List (Nat × Nat))[i]?) (cVote zVote) (parts.map fun p=>(p.1,st.ev p.2))).map .agg else none:=build_of (z:=vVote) (by kernel_rfl) vVote_c (placeTab_eq (by kernel_rfl))
theorem ld87 (cs:List AV) (o:Nat) (h:67≤cs.length - o):ldAt Tryz.prog 87 cs o=some (.agg (rd cs o 67)):=by
 have:ldInfo Tryz.prog 87=some (true,67):=by kernel_rfl
 simp[ldAt,this,h]
theorem lk87:ldK Tryz.prog 87=some 67:=by kernel_rfl
theorem fo87_0:fieldOff Tryz.prog 87 0=some 0:=by kernel_rfl
theorem fo87_1:fieldOff Tryz.prog 87 1=some 1:=by kernel_rfl
theorem fo87_2:fieldOff Tryz.prog 87 2=some 33:=by kernel_rfl
theorem fo87_3:fieldOff Tryz.prog 87 3=some 66:=by kernel_rfl
theorem ze87:zeroL Tryz.prog 87=some vAtt:=by kernel_rfl
theorem bu87 (st:St) (parts:List (Nat × Operand)):buildA Tryz.prog st 87 parts=if (parts.all fun p=>(st.ev p.2).stor)=true then (fillA (fun i=>([(0,1),(1,32),(33,33),(66,1)]:List (Nat × Nat))[i]?) (cAtt zAtt) (parts.map fun p=>(p.1,st.ev p.2))).map .agg else none:=build_of (z:=vAtt) (by kernel_rfl) vAtt_c (placeTab_eq (by kernel_rfl))
theorem ld186 (cs:List AV) (o:Nat) (h:35≤cs.length - o):ldAt Tryz.prog 186 cs o=some (.agg (rd cs o 35)):=by
 have:ldInfo Tryz.prog 186=some (true,35):=by kernel_rfl
 simp[ldAt,this,h]
theorem lk186:ldK Tryz.prog 186=some 35:=by kernel_rfl
theorem fo186_0:fieldOff Tryz.prog 186 0=some 0:=by kernel_rfl
theorem fo186_1:fieldOff Tryz.prog 186 1=some 1:=by kernel_rfl
theorem fo186_2:fieldOff Tryz.prog 186 2=some 2:=by kernel_rfl
theorem fo186_3:fieldOff Tryz.prog 186 3=some 34:=by kernel_rfl
theorem ze186:zeroL Tryz.prog 186=some vClaim:=by kernel_rfl
theorem bu186 (st:St) (parts:List (Nat × Operand)):buildA Tryz.prog st 186 parts=if (parts.all fun p=>(st.ev p.2).stor)=true then (fillA (fun i=>([(0,1),(1,1),(2,32),(34,1)]:List (Nat × Nat))[i]?) (cClaim zClaim) (parts.map fun p=>(p.1,st.ev p.2))).map .agg else none:=build_of (z:=vClaim) (by kernel_rfl) vClaim_c (placeTab_eq (by kernel_rfl))
theorem ld188 (cs:List AV) (o:Nat) (h:70≤cs.length - o):ldAt Tryz.prog 188 cs o=some (.agg (rd cs o 70)):=by
 have:ldInfo Tryz.prog 188=some (true,70):=by kernel_rfl
 simp[ldAt,this,h]
theorem lk188:ldK Tryz.prog 188=some 70:=by kernel_rfl
theorem fo188_0:fieldOff Tryz.prog 188 0=some 0:=by kernel_rfl
theorem fo188_1:fieldOff Tryz.prog 188 1=some 35:=by kernel_rfl
theorem ze188:zeroL Tryz.prog 188=some vSlashing:=by kernel_rfl
theorem bu188 (st:St) (parts:List (Nat × Operand)):buildA Tryz.prog st 188 parts=if (parts.all fun p=>(st.ev p.2).stor)=true then (fillA (fun i=>([(0,35),(35,35)]:List (Nat × Nat))[i]?) (cSlashing zSlashing) (parts.map fun p=>(p.1,st.ev p.2))).map .agg else none:=build_of (z:=vSlashing) (by kernel_rfl) vSlashing_c (placeTab_eq (by kernel_rfl))
theorem ld118 (cs:List AV) (o:Nat) (h:34≤cs.length - o):ldAt Tryz.prog 118 cs o=some (.agg (rd cs o 34)):=by
 have:ldInfo Tryz.prog 118=some (true,34):=by kernel_rfl
 simp[ldAt,this,h]
theorem lk118:ldK Tryz.prog 118=some 34:=by kernel_rfl
theorem fo118_0:fieldOff Tryz.prog 118 0=some 0:=by kernel_rfl
theorem fo118_1:fieldOff Tryz.prog 118 1=some 33:=by kernel_rfl
theorem ze118:zeroL Tryz.prog 118=some vTable:=by kernel_rfl
theorem bu118 (st:St) (parts:List (Nat × Operand)):buildA Tryz.prog st 118 parts=if (parts.all fun p=>(st.ev p.2).stor)=true then (fillA (fun i=>([(0,33),(33,1)]:List (Nat × Nat))[i]?) (cTable zTable) (parts.map fun p=>(p.1,st.ev p.2))).map .agg else none:=build_of (z:=vTable) (by kernel_rfl) vTable_c (placeTab_eq (by kernel_rfl))
theorem ld63 (cs:List AV) (o:Nat) (h:35≤cs.length - o):ldAt Tryz.prog 63 cs o=some (.agg (rd cs o 35)):=by
 have:ldInfo Tryz.prog 63=some (true,35):=by kernel_rfl
 simp[ldAt,this,h]
theorem lk63:ldK Tryz.prog 63=some 35:=by kernel_rfl
theorem fo63_0:fieldOff Tryz.prog 63 0=some 0:=by kernel_rfl
theorem fo63_1:fieldOff Tryz.prog 63 1=some 1:=by kernel_rfl
theorem fo63_2:fieldOff Tryz.prog 63 2=some 33:=by kernel_rfl
theorem fo63_3:fieldOff Tryz.prog 63 3=some 34:=by kernel_rfl
theorem ze63:zeroL Tryz.prog 63=some vRequest:=by kernel_rfl
theorem bu63 (st:St) (parts:List (Nat × Operand)):buildA Tryz.prog st 63 parts=if (parts.all fun p=>(st.ev p.2).stor)=true then (fillA (fun i=>([(0,1),(1,32),(33,1),(34,1)]:List (Nat × Nat))[i]?) (cRequest zRequest) (parts.map fun p=>(p.1,st.ev p.2))).map .agg else none:=build_of (z:=vRequest) (by kernel_rfl) vRequest_c (placeTab_eq (by kernel_rfl))
theorem ld56 (cs:List AV) (o:Nat) (h:96≤cs.length - o):ldAt Tryz.prog 56 cs o=some (.agg (rd cs o 96)):=by
 have:ldInfo Tryz.prog 56=some (true,96):=by kernel_rfl
 simp[ldAt,this,h]
theorem lk56:ldK Tryz.prog 56=some 96:=by kernel_rfl
theorem fo56_0:fieldOff Tryz.prog 56 0=some 0:=by kernel_rfl
theorem fo56_1:fieldOff Tryz.prog 56 1=some 32:=by kernel_rfl
theorem fo56_2:fieldOff Tryz.prog 56 2=some 64:=by kernel_rfl
theorem ze56:zeroL Tryz.prog 56=some vCommand:=by kernel_rfl
theorem eq56 (a b:Command):eqAgg Tryz.prog 56 (cCommand a) (cCommand b)=some (decide (a=b)):=eqAgg_of (l:=lCommand) (by kernel_rfl) (by kernel_rfl) (by kernel_rfl) (leafy_Command a b) (cCommand_inj a b)
theorem be56 (a b:Command):binA Tryz.prog .eql 56 (.agg (cCommand a)) (.agg (cCommand b))=some (.v (.bool (decide (a=b)))):=by simp only[binA,eq56,Option.map_some]
theorem bu56 (st:St) (parts:List (Nat × Operand)):buildA Tryz.prog st 56 parts=if (parts.all fun p=>(st.ev p.2).stor)=true then (fillA (fun i=>([(0,32),(32,32),(64,32)]:List (Nat × Nat))[i]?) (cCommand zCommand) (parts.map fun p=>(p.1,st.ev p.2))).map .agg else none:=build_of (z:=vCommand) (by kernel_rfl) vCommand_c (placeTab_eq (by kernel_rfl))
theorem ld39 (cs:List AV) (o:Nat) (h:2≤cs.length - o):ldAt Tryz.prog 39 cs o=some (.agg (rd cs o 2)):=by
 have:ldInfo Tryz.prog 39=some (true,2):=by kernel_rfl
 simp[ldAt,this,h]
theorem lk39:ldK Tryz.prog 39=some 2:=by kernel_rfl
theorem fo39_0:fieldOff Tryz.prog 39 0=some 0:=by kernel_rfl
theorem fo39_1:fieldOff Tryz.prog 39 1=some 1:=by kernel_rfl
theorem ze39:zeroL Tryz.prog 39=some vVotes:=by kernel_rfl
theorem lk43:ldK Tryz.prog 43=some 66:=by kernel_rfl
theorem fo43_0:fieldOff Tryz.prog 43 0=some 0:=by kernel_rfl
theorem fo43_1:fieldOff Tryz.prog 43 1=some 33:=by kernel_rfl
theorem ze43:zeroL Tryz.prog 43=some vFinality:=by kernel_rfl
theorem bu43 (st:St) (parts:List (Nat × Operand)):buildA Tryz.prog st 43 parts=if (parts.all fun p=>(st.ev p.2).stor)=true then (fillA (fun i=>([(0,33),(33,33)]:List (Nat × Nat))[i]?) (cFinality zFinality) (parts.map fun p=>(p.1,st.ev p.2))).map .agg else none:=build_of (z:=vFinality) (by kernel_rfl) vFinality_c (placeTab_eq (by kernel_rfl))
theorem lk47:ldK Tryz.prog 47=some 2:=by kernel_rfl
theorem fo47_0:fieldOff Tryz.prog 47 0=some 0:=by kernel_rfl
theorem fo47_1:fieldOff Tryz.prog 47 1=some 1:=by kernel_rfl
theorem ze47:zeroL Tryz.prog 47=some vQueues:=by kernel_rfl
theorem ld53 (cs:List AV) (o:Nat) (h:150≤cs.length - o):ldAt Tryz.prog 53 cs o=some (.agg (rd cs o 150)):=by
 have:ldInfo Tryz.prog 53=some (true,150):=by kernel_rfl
 simp[ldAt,this,h]
theorem lk53:ldK Tryz.prog 53=some 150:=by kernel_rfl
theorem fo53_0:fieldOff Tryz.prog 53 0=some 0:=by kernel_rfl
theorem fo53_1:fieldOff Tryz.prog 53 1=some 45:=by kernel_rfl
theorem fo53_2:fieldOff Tryz.prog 53 2=some 47:=by kernel_rfl
theorem fo53_3:fieldOff Tryz.prog 53 3=some 113:=by kernel_rfl
theorem fo53_4:fieldOff Tryz.prog 53 4=some 115:=by kernel_rfl
theorem fo53_5:fieldOff Tryz.prog 53 5=some 116:=by kernel_rfl
theorem fo53_6:fieldOff Tryz.prog 53 6=some 117:=by kernel_rfl
theorem fo53_7:fieldOff Tryz.prog 53 7=some 149:=by kernel_rfl
theorem ze53:zeroL Tryz.prog 53=some vStore:=by kernel_rfl
theorem bu53 (st:St) (parts:List (Nat × Operand)):buildA Tryz.prog st 53 parts=if (parts.all fun p=>(st.ev p.2).stor)=true then (fillA (fun i=>([(0,45),(45,2),(47,66),(113,2),(115,1),(116,1),(117,32),(149,1)]:List (Nat × Nat))[i]?) (cStore zStore) (parts.map fun p=>(p.1,st.ev p.2))).map .agg else none:=build_of (z:=vStore) (by kernel_rfl) vStore_c (placeTab_eq (by kernel_rfl))
theorem ld58 (cs:List AV) (o:Nat) (h:252≤cs.length - o):ldAt Tryz.prog 58 cs o=some (.agg (rd cs o 252)):=by
 have:ldInfo Tryz.prog 58=some (true,252):=by kernel_rfl
 simp[ldAt,this,h]
theorem lk58:ldK Tryz.prog 58=some 252:=by kernel_rfl
theorem fo58_0:fieldOff Tryz.prog 58 0=some 0:=by kernel_rfl
theorem fo58_1:fieldOff Tryz.prog 58 1=some 150:=by kernel_rfl
theorem fo58_2:fieldOff Tryz.prog 58 2=some 151:=by kernel_rfl
theorem fo58_3:fieldOff Tryz.prog 58 3=some 152:=by kernel_rfl
theorem fo58_4:fieldOff Tryz.prog 58 4=some 153:=by kernel_rfl
theorem fo58_5:fieldOff Tryz.prog 58 5=some 154:=by kernel_rfl
theorem fo58_6:fieldOff Tryz.prog 58 6=some 250:=by kernel_rfl
theorem fo58_7:fieldOff Tryz.prog 58 7=some 251:=by kernel_rfl
theorem ze58:zeroL Tryz.prog 58=some vState:=by kernel_rfl
theorem bu58 (st:St) (parts:List (Nat × Operand)):buildA Tryz.prog st 58 parts=if (parts.all fun p=>(st.ev p.2).stor)=true then (fillA (fun i=>([(0,150),(150,1),(151,1),(152,1),(153,1),(154,96),(250,1),(251,1)]:List (Nat × Nat))[i]?) (cState zState) (parts.map fun p=>(p.1,st.ev p.2))).map .agg else none:=build_of (z:=vState) (by kernel_rfl) vState_c (placeTab_eq (by kernel_rfl))
theorem ld190 (cs:List AV) (o:Nat) (h:446≤cs.length - o):ldAt Tryz.prog 190 cs o=some (.agg (rd cs o 446)):=by
 have:ldInfo Tryz.prog 190=some (true,446):=by kernel_rfl
 simp[ldAt,this,h]
theorem lk190:ldK Tryz.prog 190=some 446:=by kernel_rfl
theorem fo190_0:fieldOff Tryz.prog 190 0=some 0:=by kernel_rfl
theorem fo190_1:fieldOff Tryz.prog 190 1=some 1:=by kernel_rfl
theorem fo190_2:fieldOff Tryz.prog 190 2=some 239:=by kernel_rfl
theorem fo190_3:fieldOff Tryz.prog 190 3=some 306:=by kernel_rfl
theorem fo190_4:fieldOff Tryz.prog 190 4=some 376:=by kernel_rfl
theorem fo190_5:fieldOff Tryz.prog 190 5=some 410:=by kernel_rfl
theorem fo190_6:fieldOff Tryz.prog 190 6=some 444:=by kernel_rfl
theorem fo190_7:fieldOff Tryz.prog 190 7=some 445:=by kernel_rfl
theorem ze190:zeroL Tryz.prog 190=some vOpS:=by kernel_rfl
theorem bu190 (st:St) (parts:List (Nat × Operand)):buildA Tryz.prog st 190 parts=if (parts.all fun p=>(st.ev p.2).stor)=true then (fillA (fun i=>([(0,1),(1,238),(239,67),(306,70),(376,34),(410,34),(444,1),(445,1)]:List (Nat × Nat))[i]?) (cOpS zOpS) (parts.map fun p=>(p.1,st.ev p.2))).map .agg else none:=build_of (z:=vOpS) (by kernel_rfl) vOpS_c (placeTab_eq (by kernel_rfl))
theorem fa58_0 (cs:List AV) (h:150≤cs.length):fieldA Tryz.prog 58 0 (.agg cs)=some (.agg (rd cs 0 150)):=fieldA_agg (by kernel_rfl) h
theorem fa41_0 (cs:List AV):fieldA Tryz.prog 41 0 (.agg cs)=cs[0]?:=fieldA_one (k:=1) (by kernel_rfl)
theorem sl22:slInfo Tryz.prog 22=some (3,1,8):=by kernel_rfl
theorem na22:arrInfo Tryz.prog 22=none:=by kernel_rfl
theorem ld22 (cs:List AV) (o:Nat):ldAt Tryz.prog 22 cs o=cs[o]?:=by
 have:ldInfo Tryz.prog 22=some (false,1):=by kernel_rfl
 simp only[ldAt,this]
theorem lk22:ldK Tryz.prog 22=some 1:=by kernel_rfl
theorem ze22:zeroL Tryz.prog 22=some [.slice none 0 0]:=by kernel_rfl
theorem sl34:slInfo Tryz.prog 34=some (23,1,8):=by kernel_rfl
theorem na34:arrInfo Tryz.prog 34=none:=by kernel_rfl
theorem ld34 (cs:List AV) (o:Nat):ldAt Tryz.prog 34 cs o=cs[o]?:=by
 have:ldInfo Tryz.prog 34=some (false,1):=by kernel_rfl
 simp only[ldAt,this]
theorem lk34:ldK Tryz.prog 34=some 1:=by kernel_rfl
theorem ze34:zeroL Tryz.prog 34=some [.slice none 0 0]:=by kernel_rfl
theorem sl37:slInfo Tryz.prog 37=some (100,34,48):=by kernel_rfl
theorem na37:arrInfo Tryz.prog 37=none:=by kernel_rfl
theorem ld37 (cs:List AV) (o:Nat):ldAt Tryz.prog 37 cs o=cs[o]?:=by
 have:ldInfo Tryz.prog 37=some (false,1):=by kernel_rfl
 simp only[ldAt,this]
theorem lk37:ldK Tryz.prog 37=some 1:=by kernel_rfl
theorem ze37:zeroL Tryz.prog 37=some [.slice none 0 0]:=by kernel_rfl
theorem sl44:slInfo Tryz.prog 44=some (87,67,104):=by kernel_rfl
theorem na44:arrInfo Tryz.prog 44=none:=by kernel_rfl
theorem ld44 (cs:List AV) (o:Nat):ldAt Tryz.prog 44 cs o=cs[o]?:=by
 have:ldInfo Tryz.prog 44=some (false,1):=by kernel_rfl
 simp only[ldAt,this]
theorem lk44:ldK Tryz.prog 44=some 1:=by kernel_rfl
theorem ze44:zeroL Tryz.prog 44=some [.slice none 0 0]:=by kernel_rfl
theorem sl45:slInfo Tryz.prog 45=some (74,238,336):=by kernel_rfl
theorem na45:arrInfo Tryz.prog 45=none:=by kernel_rfl
theorem ld45 (cs:List AV) (o:Nat):ldAt Tryz.prog 45 cs o=cs[o]?:=by
 have:ldInfo Tryz.prog 45=some (false,1):=by kernel_rfl
 simp only[ldAt,this]
theorem lk45:ldK Tryz.prog 45=some 1:=by kernel_rfl
theorem ze45:zeroL Tryz.prog 45=some [.slice none 0 0]:=by kernel_rfl
theorem sl48:slInfo Tryz.prog 48=some (76,240,352):=by kernel_rfl
theorem na48:arrInfo Tryz.prog 48=none:=by kernel_rfl
theorem ld48 (cs:List AV) (o:Nat):ldAt Tryz.prog 48 cs o=cs[o]?:=by
 have:ldInfo Tryz.prog 48=some (false,1):=by kernel_rfl
 simp only[ldAt,this]
theorem lk48:ldK Tryz.prog 48=some 1:=by kernel_rfl
theorem ze48:zeroL Tryz.prog 48=some [.slice none 0 0]:=by kernel_rfl
theorem sl51:slInfo Tryz.prog 51=some (118,34,64):=by kernel_rfl
theorem na51:arrInfo Tryz.prog 51=none:=by kernel_rfl
theorem ld51 (cs:List AV) (o:Nat):ldAt Tryz.prog 51 cs o=cs[o]?:=by
 have:ldInfo Tryz.prog 51=some (false,1):=by kernel_rfl
 simp only[ldAt,this]
theorem lk51:ldK Tryz.prog 51=some 1:=by kernel_rfl
theorem ze51:zeroL Tryz.prog 51=some [.slice none 0 0]:=by kernel_rfl
theorem sl54:slInfo Tryz.prog 54=some (63,35,56):=by kernel_rfl
theorem na54:arrInfo Tryz.prog 54=none:=by kernel_rfl
theorem ld54 (cs:List AV) (o:Nat):ldAt Tryz.prog 54 cs o=cs[o]?:=by
 have:ldInfo Tryz.prog 54=some (false,1):=by kernel_rfl
 simp only[ldAt,this]
theorem lk54:ldK Tryz.prog 54=some 1:=by kernel_rfl
theorem ze54:zeroL Tryz.prog 54=some [.slice none 0 0]:=by kernel_rfl
theorem sl70:slInfo Tryz.prog 70=some (27,32,32):=by kernel_rfl
theorem na70:arrInfo Tryz.prog 70=none:=by kernel_rfl
theorem lk70:ldK Tryz.prog 70=some 1:=by kernel_rfl
theorem ze70:zeroL Tryz.prog 70=some [.slice none 0 0]:=by kernel_rfl
theorem sl109:slInfo Tryz.prog 109=some (41,33,40):=by kernel_rfl
theorem na109:arrInfo Tryz.prog 109=none:=by kernel_rfl
theorem lk109:ldK Tryz.prog 109=some 1:=by kernel_rfl
theorem ze109:zeroL Tryz.prog 109=some [.slice none 0 0]:=by kernel_rfl
theorem sl124:slInfo Tryz.prog 124=some (190,446,720):=by kernel_rfl
theorem na124:arrInfo Tryz.prog 124=none:=by kernel_rfl
theorem lk124:ldK Tryz.prog 124=some 1:=by kernel_rfl
theorem ze124:zeroL Tryz.prog 124=some [.slice none 0 0]:=by kernel_rfl
theorem sl181:slInfo Tryz.prog 181=some (56,96,96):=by kernel_rfl
theorem na181:arrInfo Tryz.prog 181=none:=by kernel_rfl
theorem lk181:ldK Tryz.prog 181=some 1:=by kernel_rfl
theorem ze181:zeroL Tryz.prog 181=some [.slice none 0 0]:=by kernel_rfl
theorem sl236:slInfo Tryz.prog 236=some (5,1,1):=by kernel_rfl
theorem na236:arrInfo Tryz.prog 236=none:=by kernel_rfl
theorem lk236:ldK Tryz.prog 236=some 1:=by kernel_rfl
theorem ze236:zeroL Tryz.prog 236=some [.slice none 0 0]:=by kernel_rfl
theorem sl262:slInfo Tryz.prog 262=some (4,1,1):=by kernel_rfl
theorem na262:arrInfo Tryz.prog 262=none:=by kernel_rfl
theorem lk262:ldK Tryz.prog 262=some 1:=by kernel_rfl
theorem ze262:zeroL Tryz.prog 262=some [.slice none 0 0]:=by kernel_rfl
theorem an34 (st:St) (x:AV):appendA Tryz.prog st 34 (.v (.slice none 0 0)) x=anE 23 1 8 (sliceView st x):=app_nil sl34 x
theorem ao34 (st:St) (s g:Nat) (x:AV):appendA Tryz.prog st 34 (.own s g) x=aoE 23 1 8 (st.heap s g) s g (sliceView st x):=app_own sl34 s g x
theorem io34 (st:St) (s g:Nat) (kk:IntKind) (i:Int):indexAddrA Tryz.prog st 34 (.own s g) (.v (.int kk i))=ioE 23 1 (st.heap s g) s g i:=idx_own na34 sl34 s g kk i
theorem b134 {call:Nat→List AV→Option AV} {ops:Array Oper} {st:St} {T:Nat} {pos:String} {aft:Array Edge} (d:Nat) (x:Operand):evOp Tryz.prog call ops ⟨some d,.buildSlice 34 1 #[(0,x)],T,pos,aft,none⟩ st=elV (st.ev x) (fun y=>some ((st.new d (.row 23 1 1 [.v y])).put (some d) (.own d (st.cnt d)))) (evOp Tryz.prog call ops ⟨some d,.buildSlice 34 1 #[(0,x)],T,pos,aft,none⟩ st):=ev_bs1E sl34 ze23 d x
theorem an37 (st:St) (x:AV):appendA Tryz.prog st 37 (.v (.slice none 0 0)) x=anE 100 34 48 (sliceView st x):=app_nil sl37 x
theorem io37 (st:St) (s g:Nat) (kk:IntKind) (i:Int):indexAddrA Tryz.prog st 37 (.own s g) (.v (.int kk i))=ioE 100 34 (st.heap s g) s g i:=idx_own na37 sl37 s g kk i
theorem an44 (st:St) (x:AV):appendA Tryz.prog st 44 (.v (.slice none 0 0)) x=anE 87 67 104 (sliceView st x):=app_nil sl44 x
theorem ao44 (st:St) (s g:Nat) (x:AV):appendA Tryz.prog st 44 (.own s g) x=aoE 87 67 104 (st.heap s g) s g (sliceView st x):=app_own sl44 s g x
theorem b144 {call:Nat→List AV→Option AV} {ops:Array Oper} {st:St} {T:Nat} {pos:String} {aft:Array Edge} (d:Nat) (x:Operand):evOp Tryz.prog call ops ⟨some d,.buildSlice 44 1 #[(0,x)],T,pos,aft,none⟩ st=elA 67 (st.ev x) (fun cs=>some ((st.new d (.row 87 67 1 cs)).put (some d) (.own d (st.cnt d)))) (evOp Tryz.prog call ops ⟨some d,.buildSlice 44 1 #[(0,x)],T,pos,aft,none⟩ st):=ev_bsAE sl44 ze87 (by rfl) (by decide) d x
theorem an45 (st:St) (x:AV):appendA Tryz.prog st 45 (.v (.slice none 0 0)) x=anE 74 238 336 (sliceView st x):=app_nil sl45 x
theorem ao45 (st:St) (s g:Nat) (x:AV):appendA Tryz.prog st 45 (.own s g) x=aoE 74 238 336 (st.heap s g) s g (sliceView st x):=app_own sl45 s g x
theorem io45 (st:St) (s g:Nat) (kk:IntKind) (i:Int):indexAddrA Tryz.prog st 45 (.own s g) (.v (.int kk i))=ioE 74 238 (st.heap s g) s g i:=idx_own na45 sl45 s g kk i
theorem b145 {call:Nat→List AV→Option AV} {ops:Array Oper} {st:St} {T:Nat} {pos:String} {aft:Array Edge} (d:Nat) (x:Operand):evOp Tryz.prog call ops ⟨some d,.buildSlice 45 1 #[(0,x)],T,pos,aft,none⟩ st=elA 238 (st.ev x) (fun cs=>some ((st.new d (.row 74 238 1 cs)).put (some d) (.own d (st.cnt d)))) (evOp Tryz.prog call ops ⟨some d,.buildSlice 45 1 #[(0,x)],T,pos,aft,none⟩ st):=ev_bsAE sl45 ze74 (by rfl) (by decide) d x
theorem an51 (st:St) (x:AV):appendA Tryz.prog st 51 (.v (.slice none 0 0)) x=anE 118 34 64 (sliceView st x):=app_nil sl51 x
theorem ao51 (st:St) (s g:Nat) (x:AV):appendA Tryz.prog st 51 (.own s g) x=aoE 118 34 64 (st.heap s g) s g (sliceView st x):=app_own sl51 s g x
theorem b151 {call:Nat→List AV→Option AV} {ops:Array Oper} {st:St} {T:Nat} {pos:String} {aft:Array Edge} (d:Nat) (x:Operand):evOp Tryz.prog call ops ⟨some d,.buildSlice 51 1 #[(0,x)],T,pos,aft,none⟩ st=elA 34 (st.ev x) (fun cs=>some ((st.new d (.row 118 34 1 cs)).put (some d) (.own d (st.cnt d)))) (evOp Tryz.prog call ops ⟨some d,.buildSlice 51 1 #[(0,x)],T,pos,aft,none⟩ st):=ev_bsAE sl51 ze118 (by rfl) (by decide) d x
theorem an54 (st:St) (x:AV):appendA Tryz.prog st 54 (.v (.slice none 0 0)) x=anE 63 35 56 (sliceView st x):=app_nil sl54 x
theorem ao54 (st:St) (s g:Nat) (x:AV):appendA Tryz.prog st 54 (.own s g) x=aoE 63 35 56 (st.heap s g) s g (sliceView st x):=app_own sl54 s g x
theorem io54 (st:St) (s g:Nat) (kk:IntKind) (i:Int):indexAddrA Tryz.prog st 54 (.own s g) (.v (.int kk i))=ioE 63 35 (st.heap s g) s g i:=idx_own na54 sl54 s g kk i
theorem b154 {call:Nat→List AV→Option AV} {ops:Array Oper} {st:St} {T:Nat} {pos:String} {aft:Array Edge} (d:Nat) (x:Operand):evOp Tryz.prog call ops ⟨some d,.buildSlice 54 1 #[(0,x)],T,pos,aft,none⟩ st=elA 35 (st.ev x) (fun cs=>some ((st.new d (.row 63 35 1 cs)).put (some d) (.own d (st.cnt d)))) (evOp Tryz.prog call ops ⟨some d,.buildSlice 54 1 #[(0,x)],T,pos,aft,none⟩ st):=ev_bsAE sl54 ze63 (by rfl) (by decide) d x
theorem ao70 (st:St) (s g:Nat) (x:AV):appendA Tryz.prog st 70 (.own s g) x=aoE 27 32 32 (st.heap s g) s g (sliceView st x):=app_own sl70 s g x
theorem b170 {call:Nat→List AV→Option AV} {ops:Array Oper} {st:St} {T:Nat} {pos:String} {aft:Array Edge} (d:Nat) (x:Operand):evOp Tryz.prog call ops ⟨some d,.buildSlice 70 1 #[(0,x)],T,pos,aft,none⟩ st=elA 32 (st.ev x) (fun cs=>some ((st.new d (.row 27 32 1 cs)).put (some d) (.own d (st.cnt d)))) (evOp Tryz.prog call ops ⟨some d,.buildSlice 70 1 #[(0,x)],T,pos,aft,none⟩ st):=ev_bsAE sl70 ze27 (by rfl) (by decide) d x
theorem io109 (st:St) (s g:Nat) (kk:IntKind) (i:Int):indexAddrA Tryz.prog st 109 (.own s g) (.v (.int kk i))=ioE 41 33 (st.heap s g) s g i:=idx_own na109 sl109 s g kk i
theorem an124 (st:St) (x:AV):appendA Tryz.prog st 124 (.v (.slice none 0 0)) x=anE 190 446 720 (sliceView st x):=app_nil sl124 x
theorem ao124 (st:St) (s g:Nat) (x:AV):appendA Tryz.prog st 124 (.own s g) x=aoE 190 446 720 (st.heap s g) s g (sliceView st x):=app_own sl124 s g x
theorem b1124 {call:Nat→List AV→Option AV} {ops:Array Oper} {st:St} {T:Nat} {pos:String} {aft:Array Edge} (d:Nat) (x:Operand):evOp Tryz.prog call ops ⟨some d,.buildSlice 124 1 #[(0,x)],T,pos,aft,none⟩ st=elA 446 (st.ev x) (fun cs=>some ((st.new d (.row 190 446 1 cs)).put (some d) (.own d (st.cnt d)))) (evOp Tryz.prog call ops ⟨some d,.buildSlice 124 1 #[(0,x)],T,pos,aft,none⟩ st):=ev_bsAE sl124 ze190 (by rfl) (by decide) d x
theorem b1181 {call:Nat→List AV→Option AV} {ops:Array Oper} {st:St} {T:Nat} {pos:String} {aft:Array Edge} (d:Nat) (x:Operand):evOp Tryz.prog call ops ⟨some d,.buildSlice 181 1 #[(0,x)],T,pos,aft,none⟩ st=elA 96 (st.ev x) (fun cs=>some ((st.new d (.row 56 96 1 cs)).put (some d) (.own d (st.cnt d)))) (evOp Tryz.prog call ops ⟨some d,.buildSlice 181 1 #[(0,x)],T,pos,aft,none⟩ st):=ev_bsAE sl181 ze56 (by rfl) (by decide) d x
theorem an236 (st:St) (x:AV):appendA Tryz.prog st 236 (.v (.slice none 0 0)) x=anE 5 1 1 (sliceView st x):=app_nil sl236 x
theorem ao236 (st:St) (s g:Nat) (x:AV):appendA Tryz.prog st 236 (.own s g) x=aoE 5 1 1 (st.heap s g) s g (sliceView st x):=app_own sl236 s g x
theorem b1236 {call:Nat→List AV→Option AV} {ops:Array Oper} {st:St} {T:Nat} {pos:String} {aft:Array Edge} (d:Nat) (x:Operand):evOp Tryz.prog call ops ⟨some d,.buildSlice 236 1 #[(0,x)],T,pos,aft,none⟩ st=elV (st.ev x) (fun y=>some ((st.new d (.row 5 1 1 [.v y])).put (some d) (.own d (st.cnt d)))) (evOp Tryz.prog call ops ⟨some d,.buildSlice 236 1 #[(0,x)],T,pos,aft,none⟩ st):=ev_bs1E sl236 ze5 d x
theorem an262 (st:St) (x:AV):appendA Tryz.prog st 262 (.v (.slice none 0 0)) x=anE 4 1 1 (sliceView st x):=app_nil sl262 x
theorem ao262 (st:St) (s g:Nat) (x:AV):appendA Tryz.prog st 262 (.own s g) x=aoE 4 1 1 (st.heap s g) s g (sliceView st x):=app_own sl262 s g x
theorem b1262 {call:Nat→List AV→Option AV} {ops:Array Oper} {st:St} {T:Nat} {pos:String} {aft:Array Edge} (d:Nat) (x:Operand):evOp Tryz.prog call ops ⟨some d,.buildSlice 262 1 #[(0,x)],T,pos,aft,none⟩ st=elV (st.ev x) (fun y=>some ((st.new d (.row 4 1 1 [.v y])).put (some d) (.own d (st.cnt d)))) (evOp Tryz.prog call ops ⟨some d,.buildSlice 262 1 #[(0,x)],T,pos,aft,none⟩ st):=ev_bs1E sl262 ze4 d x
theorem ok11:fnOkN Tryz.f11=true:=by kernel_rfl
theorem ok12:fnOk Tryz.f12=true:=by kernel_rfl
theorem ok13:fnOkN Tryz.f13=true:=by kernel_rfl
theorem ok14:fnOkN Tryz.f14=true:=by kernel_rfl
theorem ok24:fnOkN Tryz.f24=true:=by kernel_rfl
theorem ok25:fnOk Tryz.f25=true:=by kernel_rfl
theorem ok27:fnOk Tryz.f27=true:=by kernel_rfl
theorem ok30:fnOkN Tryz.f30=true:=by kernel_rfl
theorem ok32:fnOkN Tryz.f32=true:=by kernel_rfl
theorem ok34:fnOkN Tryz.f34=true:=by kernel_rfl
theorem ok36:fnOkN Tryz.f36=true:=by kernel_rfl
theorem ok37:fnOkN Tryz.f37=true:=by kernel_rfl
theorem ok39:fnOkN Tryz.f39=true:=by kernel_rfl
theorem ok40:fnOkN Tryz.f40=true:=by kernel_rfl
theorem ok44:fnOkN Tryz.f44=true:=by kernel_rfl
theorem ok45:fnOkN Tryz.f45=true:=by kernel_rfl
theorem ok46:fnOkN Tryz.f46=true:=by kernel_rfl
theorem ok47:fnOkN Tryz.f47=true:=by kernel_rfl
theorem ok49:fnOkN Tryz.f49=true:=by kernel_rfl
theorem ok50:fnOk Tryz.f50=true:=by kernel_rfl
theorem ok51:fnOkN Tryz.f51=true:=by kernel_rfl
theorem ok52:fnOkN Tryz.f52=true:=by kernel_rfl
theorem ok53:fnOkN Tryz.f53=true:=by kernel_rfl
theorem ok54:fnOkN Tryz.f54=true:=by kernel_rfl
theorem ok55:fnOkN Tryz.f55=true:=by kernel_rfl
theorem ok59:fnOk Tryz.f59=true:=by kernel_rfl
theorem ok61:fnOk Tryz.f61=true:=by kernel_rfl
theorem ok64:fnOkN Tryz.f64=true:=by kernel_rfl
theorem ok65:fnOkN Tryz.f65=true:=by kernel_rfl
theorem ok67:fnOkN Tryz.f67=true:=by kernel_rfl
theorem ok68:fnOkN Tryz.f68=true:=by kernel_rfl
theorem ok69:fnOkN Tryz.f69=true:=by kernel_rfl
theorem ok72:fnOkN Tryz.f72=true:=by kernel_rfl
theorem ok74:fnOk Tryz.f74=true:=by kernel_rfl
theorem ok75:fnOk Tryz.f75=true:=by kernel_rfl
theorem ok76:fnOkN Tryz.f76=true:=by kernel_rfl
theorem ok85:fnOkN Tryz.f85=true:=by kernel_rfl
theorem ok86:fnOkN Tryz.f86=true:=by kernel_rfl
theorem ok87:fnOkN Tryz.f87=true:=by kernel_rfl
theorem ok89:fnOkN Tryz.f89=true:=by kernel_rfl
theorem ok91:fnOkN Tryz.f91=true:=by kernel_rfl
theorem ok92:fnOkN Tryz.f92=true:=by kernel_rfl
theorem ok94:fnOkN Tryz.f94=true:=by kernel_rfl
theorem ok95:fnOkN Tryz.f95=true:=by kernel_rfl
theorem ok96:fnOkN Tryz.f96=true:=by kernel_rfl
theorem ok97:fnOkN Tryz.f97=true:=by kernel_rfl
theorem ok98:fnOkN Tryz.f98=true:=by kernel_rfl
theorem ok99:fnOkN Tryz.f99=true:=by kernel_rfl
theorem ok100:fnOkN Tryz.f100=true:=by kernel_rfl
theorem ok101:fnOkN Tryz.f101=true:=by kernel_rfl
theorem ok102:fnOkN Tryz.f102=true:=by kernel_rfl
theorem ok103:fnOkN Tryz.f103=true:=by kernel_rfl
theorem ok105:fnOkN Tryz.f105=true:=by kernel_rfl
theorem ok108:fnOkN Tryz.f108=true:=by kernel_rfl
theorem ok110:fnOkN Tryz.f110=true:=by kernel_rfl
theorem ok111:fnOkN Tryz.f111=true:=by kernel_rfl
theorem ok112:fnOkN Tryz.f112=true:=by kernel_rfl
theorem ok113:fnOkN Tryz.f113=true:=by kernel_rfl
theorem ok114:fnOkN Tryz.f114=true:=by kernel_rfl
theorem ok115:fnOkN Tryz.f115=true:=by kernel_rfl
theorem ok116:fnOkN Tryz.f116=true:=by kernel_rfl
theorem ok117:fnOkN Tryz.f117=true:=by kernel_rfl
theorem ok122:fnOkN Tryz.f122=true:=by kernel_rfl
theorem ok128:fnOkN Tryz.f128=true:=by kernel_rfl
theorem ok130:fnOkN Tryz.f130=true:=by kernel_rfl
theorem ok131:fnOkN Tryz.f131=true:=by kernel_rfl
theorem ok135:fnOkN Tryz.f135=true:=by kernel_rfl
theorem ok136:fnOkN Tryz.f136=true:=by kernel_rfl
theorem ok137:fnOkN Tryz.f137=true:=by kernel_rfl
theorem ok143:fnOkN Tryz.f143=true:=by kernel_rfl
theorem ok144:fnOkN Tryz.f144=true:=by kernel_rfl
theorem ok145:fnOkN Tryz.f145=true:=by kernel_rfl
theorem ok146:fnOkN Tryz.f146=true:=by kernel_rfl
theorem ok147:fnOkN Tryz.f147=true:=by kernel_rfl
theorem ok149:fnOkN Tryz.f149=true:=by kernel_rfl
theorem ok150:fnOkN Tryz.f150=true:=by kernel_rfl
theorem ok151:fnOkN Tryz.f151=true:=by kernel_rfl
theorem ok152:fnOkN Tryz.f152=true:=by kernel_rfl
theorem ok153:fnOkN Tryz.f153=true:=by kernel_rfl
theorem ok154:fnOkN Tryz.f154=true:=by kernel_rfl
theorem ok155:fnOkN Tryz.f155=true:=by kernel_rfl
theorem ok156:fnOkN Tryz.f156=true:=by kernel_rfl
theorem ok157:fnOkN Tryz.f157=true:=by kernel_rfl
theorem ok158:fnOkN Tryz.f158=true:=by kernel_rfl
theorem ok159:fnOkN Tryz.f159=true:=by kernel_rfl
theorem ok167:fnOkN Tryz.f167=true:=by kernel_rfl
theorem ok168:fnOkN Tryz.f168=true:=by kernel_rfl
theorem ok169:fnOkN Tryz.f169=true:=by kernel_rfl
theorem ok170:fnOkN Tryz.f170=true:=by kernel_rfl
theorem ok171:fnOkN Tryz.f171=true:=by kernel_rfl
theorem ok172:fnOkN Tryz.f172=true:=by kernel_rfl
theorem ok175:fnOkN Tryz.f175=true:=by kernel_rfl
theorem ok176:fnOkN Tryz.f176=true:=by kernel_rfl
theorem ok181:fnOk Tryz.f181=true:=by kernel_rfl
theorem ok182:fnOkN Tryz.f182=true:=by kernel_rfl
theorem ok183:fnOkN Tryz.f183=true:=by kernel_rfl
theorem ok184:fnOk Tryz.f184=true:=by kernel_rfl
theorem ok185:fnOkN Tryz.f185=true:=by kernel_rfl
theorem ok186:fnOkN Tryz.f186=true:=by kernel_rfl
theorem ok188:fnOkN Tryz.f188=true:=by kernel_rfl
theorem ok189:fnOkN Tryz.f189=true:=by kernel_rfl
theorem ok195:fnOk Tryz.f195=true:=by kernel_rfl
theorem ok196:fnOkN Tryz.f196=true:=by kernel_rfl
theorem ok199:fnOkN Tryz.f199=true:=by kernel_rfl
theorem ok200:fnOkN Tryz.f200=true:=by kernel_rfl
theorem ok201:fnOkN Tryz.f201=true:=by kernel_rfl
theorem ok202:fnOk Tryz.f202=true:=by kernel_rfl
theorem ok203:fnOkN Tryz.f203=true:=by kernel_rfl
theorem ok204:fnOkN Tryz.f204=true:=by kernel_rfl
theorem ok205:fnOkN Tryz.f205=true:=by kernel_rfl
theorem ok206:fnOkN Tryz.f206=true:=by kernel_rfl
theorem ok208:fnOkN Tryz.f208=true:=by kernel_rfl
theorem ok209:fnOkN Tryz.f209=true:=by kernel_rfl
theorem ok210:fnOk Tryz.f210=true:=by kernel_rfl
theorem ok211:fnOk Tryz.f211=true:=by kernel_rfl
theorem ok212:fnOkN Tryz.f212=true:=by kernel_rfl
theorem ok213:fnOk Tryz.f213=true:=by kernel_rfl
theorem ok214:fnOk Tryz.f214=true:=by kernel_rfl
theorem ok215:fnOkN Tryz.f215=true:=by kernel_rfl
theorem ok216:fnOkN Tryz.f216=true:=by kernel_rfl
theorem ok217:fnOkN Tryz.f217=true:=by kernel_rfl
theorem ok218:fnOkN Tryz.f218=true:=by kernel_rfl
theorem ok219:fnOkN Tryz.f219=true:=by kernel_rfl
theorem ok220:fnOkN Tryz.f220=true:=by kernel_rfl
theorem ok221:fnOkN Tryz.f221=true:=by kernel_rfl
theorem ok222:fnOkN Tryz.f222=true:=by kernel_rfl
theorem ok223:fnOkN Tryz.f223=true:=by kernel_rfl
theorem ok224:fnOkN Tryz.f224=true:=by kernel_rfl
theorem ok225:fnOkN Tryz.f225=true:=by kernel_rfl
theorem ok226:fnOkN Tryz.f226=true:=by kernel_rfl
theorem ok227:fnOkN Tryz.f227=true:=by kernel_rfl
theorem ok228:fnOk Tryz.f228=true:=by kernel_rfl
theorem ok229:fnOkN Tryz.f229=true:=by kernel_rfl
theorem ok230:fnOkN Tryz.f230=true:=by kernel_rfl
theorem ok231:fnOk Tryz.f231=true:=by kernel_rfl
theorem ok232:fnOkN Tryz.f232=true:=by kernel_rfl
theorem ok233:fnOkN Tryz.f233=true:=by kernel_rfl
theorem ok234:fnOkN Tryz.f234=true:=by kernel_rfl
theorem ok235:fnOk Tryz.f235=true:=by kernel_rfl
theorem ok236:fnOkN Tryz.f236=true:=by kernel_rfl
theorem ok237:fnOkN Tryz.f237=true:=by kernel_rfl
theorem ok238:fnOkN Tryz.f238=true:=by kernel_rfl
theorem ok239:fnOkN Tryz.f239=true:=by kernel_rfl
theorem ok240:fnOkN Tryz.f240=true:=by kernel_rfl
theorem ok241:fnOkN Tryz.f241=true:=by kernel_rfl
theorem ok242:fnOkN Tryz.f242=true:=by kernel_rfl
theorem ok243:fnOkN Tryz.f243=true:=by kernel_rfl
theorem ok244:fnOkN Tryz.f244=true:=by kernel_rfl
theorem ok245:fnOkN Tryz.f245=true:=by kernel_rfl
theorem ok246:fnOkN Tryz.f246=true:=by kernel_rfl
theorem ok247:fnOkN Tryz.f247=true:=by kernel_rfl
theorem ok248:fnOkN Tryz.f248=true:=by kernel_rfl
theorem ok249:fnOkN Tryz.f249=true:=by kernel_rfl
theorem ok250:fnOkN Tryz.f250=true:=by kernel_rfl
theorem ok251:fnOkN Tryz.f251=true:=by kernel_rfl
theorem ok252:fnOkN Tryz.f252=true:=by kernel_rfl
end Go.Ab.Tryz
