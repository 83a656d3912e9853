/-
  Part 8 of the proof: an evaluator of programs, its soundness, and what functions of this program compute.
-/
import Derived.Test.YtmcjkemalibacaaGreatK7
import Derived.Test.YtmcjkemalibacaaGreatProg
import Derived.KernelRfl
set_option linter.all false
set_option maxRecDepth 20000
set_option maxHeartbeats 40000000
namespace Go.Ab.Tryz
open Classical Go.Proofs Go.Ab
theorem mixed:Tryz.prog.follows .mixedOrders=true:=by kernel_rfl
theorem ld3 (cs:List AV) (o:Nat):fB Tryz.prog 3 cs o=cs[o]?:=by
 have:fQ Tryz.prog 3=some (false,1):=by kernel_rfl
 simp only[fB,this]
theorem ik3:intKind Tryz.prog 3=some .i64:=by kernel_rfl
theorem lk3:sL Tryz.prog 3=some 1:=by kernel_rfl
theorem ze3:eI Tryz.prog 3=some [.int .i64 0]:=by kernel_rfl
theorem aTM (cs:List AV) (o:Nat):fB Tryz.prog 23 cs o=cs[o]?:=by
 have:fQ Tryz.prog 23=some (false,1):=by kernel_rfl
 simp only[fB,this]
theorem aTN:intKind Tryz.prog 23=some .u64:=by kernel_rfl
theorem UW:sL Tryz.prog 23=some 1:=by kernel_rfl
theorem aIa:eI Tryz.prog 23=some [.int .u64 0]:=by kernel_rfl
theorem aTO:intKind Tryz.prog 61=some .u64:=by kernel_rfl
theorem aTP:sL Tryz.prog 61=some 1:=by kernel_rfl
theorem aTQ:eI Tryz.prog 61=some [.int .u64 0]:=by kernel_rfl
theorem ld5 (cs:List AV) (o:Nat):fB Tryz.prog 5 cs o=cs[o]?:=by
 have:fQ Tryz.prog 5=some (false,1):=by kernel_rfl
 simp only[fB,this]
theorem ik5:intKind Tryz.prog 5=some .u8:=by kernel_rfl
theorem lk5:sL Tryz.prog 5=some 1:=by kernel_rfl
theorem ze5:eI Tryz.prog 5=some [.int .u8 0]:=by kernel_rfl
theorem ik2:intKind Tryz.prog 2=some .i64:=by kernel_rfl
theorem lk2:sL Tryz.prog 2=some 1:=by kernel_rfl
theorem ze2:eI Tryz.prog 2=some [.int .i64 0]:=by kernel_rfl
theorem aTR:intKind Tryz.prog 64=some .i64:=by kernel_rfl
theorem aTS:sL Tryz.prog 64=some 1:=by kernel_rfl
theorem aTT:eI Tryz.prog 64=some [.int .i64 0]:=by kernel_rfl
theorem ld4 (cs:List AV) (o:Nat):fB Tryz.prog 4 cs o=cs[o]?:=by
 have:fQ Tryz.prog 4=some (false,1):=by kernel_rfl
 simp only[fB,this]
theorem lk4:sL Tryz.prog 4=some 1:=by kernel_rfl
theorem ze4:eI Tryz.prog 4=some [.bool false]:=by kernel_rfl
theorem be4 (a b:Bool):gM Tryz.prog .eql 4 (.v (.bool a)) (.v (.bool b))=some (.v (.bool (a == b))):=by
 have:Tryz.prog.underlying 4=some .bool:=by kernel_rfl
 simp only[gM,this]
theorem aTU (cs:List AV) (o:Nat) (h:32≤cs.length-o):fB Tryz.prog 27 cs o=some (.agg (rd cs o 32)):=by
 have:fQ Tryz.prog 27=some (true,32):=by kernel_rfl
 simp[fB,this,h]
theorem aLr:sL Tryz.prog 27=some 32:=by kernel_rfl
theorem aN7:eI Tryz.prog 27=some tO:=by kernel_rfl
theorem aIb (a b:cN):vD Tryz.prog 27 (bF a) (bF b)=some (decide (a=b)):=rI (l:=Ip) (by kernel_rfl) (by kernel_rfl) (by kernel_rfl) (oA a b) (pZ a b)
theorem aTV (a b:cN):gM Tryz.prog .eql 27 (.agg (bF a)) (.agg (bF b))=some (.v (.bool (decide (a=b)))):=by simp only[gM,aIb,Option.map_some]
theorem aTW (a b:cN):gM Tryz.prog .neq 27 (.agg (bF a)) (.agg (bF b))=some (.v (.bool (!(decide (a=b))))):=by simp only[gM,aIb,Option.map_some]
theorem aGG:jJ Tryz.prog 27=some (32,1):=by kernel_rfl
theorem aTX (st:St) (parts:List (Nat × Operand)):iW Tryz.prog st 27 parts=if (parts.all fun p=>(st.ev p.2).jD)=true then (gS (fun i=>some (i * 1,1)) (bF dV) (parts.map fun p=>(p.1,st.ev p.2))).map .agg else none:=iI (z:=tO) (by kernel_rfl) jM (Ul (by kernel_rfl))
theorem aTY (cs:List AV) (o:Nat) (h:4≤cs.length-o):fB Tryz.prog 33 cs o=some (.agg (rd cs o 4)):=by
 have:fQ Tryz.prog 33=some (true,4):=by kernel_rfl
 simp[fB,this,h]
theorem aTZ:sL Tryz.prog 33=some 4:=by kernel_rfl
theorem aT0:eI Tryz.prog 33=some AJ:=by kernel_rfl
theorem aN8 (a b:qE):vD Tryz.prog 33 (gG a) (gG b)=some (decide (a=b)):=rI (l:=A4) (by kernel_rfl) (by kernel_rfl) (by kernel_rfl) (Mo a b) (Sn a b)
theorem aT1 (a b:qE):gM Tryz.prog .neq 33 (.agg (gG a)) (.agg (gG b))=some (.v (.bool (!(decide (a=b))))):=by simp only[gM,aN8,Option.map_some]
theorem aLc:jJ Tryz.prog 33=some (4,1):=by kernel_rfl
theorem aT2 (st:St) (parts:List (Nat × Operand)):iW Tryz.prog st 33 parts=if (parts.all fun p=>(st.ev p.2).jD)=true then (gS (fun i=>some (i * 1,1)) (gG GW) (parts.map fun p=>(p.1,st.ev p.2))).map .agg else none:=iI (z:=AJ) (by kernel_rfl) jN (Ul (by kernel_rfl))
theorem aT3 (cs:List AV) (o:Nat) (h:33≤cs.length-o):fB Tryz.prog 41 cs o=some (.agg (rd cs o 33)):=by
 have:fQ Tryz.prog 41=some (true,33):=by kernel_rfl
 simp[fB,this,h]
theorem aNd:sL Tryz.prog 41=some 33:=by kernel_rfl
theorem aIc:bA Tryz.prog 41 0=some 0:=by kernel_rfl
theorem aId:bA Tryz.prog 41 1=some 1:=by kernel_rfl
theorem aGK:eI Tryz.prog 41=some zS:=by kernel_rfl
theorem aIe (a b:dP):vD Tryz.prog 41 (aW a) (aW b)=some (decide (a=b)):=rI (l:=Un) (by kernel_rfl) (by kernel_rfl) (by kernel_rfl) (tH a b) (mY a b)
theorem aT4 (a b:dP):gM Tryz.prog .eql 41 (.agg (aW a)) (.agg (aW b))=some (.v (.bool (decide (a=b)))):=by simp only[gM,aIe,Option.map_some]
theorem aT5 (a b:dP):gM Tryz.prog .neq 41 (.agg (aW a)) (.agg (aW b))=some (.v (.bool (!(decide (a=b))))):=by simp only[gM,aIe,Option.map_some]
theorem aT6 (st:St) (parts:List (Nat × Operand)):iW Tryz.prog st 41 parts=if (parts.all fun p=>(st.ev p.2).jD)=true then (gS (fun i=>([(0,1),(1,32)]:List (Nat × Nat))[i]?) (aW fV) (parts.map fun p=>(p.1,st.ev p.2))).map .agg else none:=iI (z:=zS) (by kernel_rfl) Bl (fD (by kernel_rfl))
theorem aT7 (cs:List AV) (o:Nat) (h:66≤cs.length-o):fB Tryz.prog 72 cs o=some (.agg (rd cs o 66)):=by
 have:fQ Tryz.prog 72=some (true,66):=by kernel_rfl
 simp[fB,this,h]
theorem aT8:sL Tryz.prog 72=some 66:=by kernel_rfl
theorem aIf:bA Tryz.prog 72 0=some 0:=by kernel_rfl
theorem aIg:bA Tryz.prog 72 1=some 33:=by kernel_rfl
theorem aT9:eI Tryz.prog 72=some Qa:=by kernel_rfl
theorem aN9 (a b:mI):vD Tryz.prog 72 (dM a) (dM b)=some (decide (a=b)):=rI (l:=JV) (by kernel_rfl) (by kernel_rfl) (by kernel_rfl) (Qb a b) (Uo a b)
theorem aUa (a b:mI):gM Tryz.prog .neq 72 (.agg (dM a)) (.agg (dM b))=some (.v (.bool (!(decide (a=b))))):=by simp only[gM,aN9,Option.map_some]
theorem aUb (st:St) (parts:List (Nat × Operand)):iW Tryz.prog st 72 parts=if (parts.all fun p=>(st.ev p.2).jD)=true then (gS (fun i=>([(0,33),(33,33)]:List (Nat × Nat))[i]?) (dM Ev) (parts.map fun p=>(p.1,st.ev p.2))).map .agg else none:=iI (z:=Qa) (by kernel_rfl) So (fD (by kernel_rfl))
theorem aUc (cs:List AV) (o:Nat) (h:238≤cs.length-o):fB Tryz.prog 74 cs o=some (.agg (rd cs o 238)):=by
 have:fQ Tryz.prog 74=some (true,238):=by kernel_rfl
 simp[fB,this,h]
theorem OA:sL Tryz.prog 74=some 238:=by kernel_rfl
theorem aIh:bA Tryz.prog 74 0=some 0:=by kernel_rfl
theorem aIi:bA Tryz.prog 74 1=some 66:=by kernel_rfl
theorem aIj:bA Tryz.prog 74 2=some 67:=by kernel_rfl
theorem aIk:bA Tryz.prog 74 3=some 99:=by kernel_rfl
theorem aIl:bA Tryz.prog 74 4=some 131:=by kernel_rfl
theorem aIm:bA Tryz.prog 74 5=some 163:=by kernel_rfl
theorem aIn:bA Tryz.prog 74 6=some 167:=by kernel_rfl
theorem aIo:bA Tryz.prog 74 7=some 171:=by kernel_rfl
theorem aIp:bA Tryz.prog 74 8=some 204:=by kernel_rfl
theorem aIq:bA Tryz.prog 74 9=some 237:=by kernel_rfl
theorem aDl:eI Tryz.prog 74=some Fg:=by kernel_rfl
theorem aIr (a b:Block):vD Tryz.prog 74 (aP a) (aP b)=some (decide (a=b)):=rI (l:=XU) (by kernel_rfl) (by kernel_rfl) (by kernel_rfl) (Up a b) (AM a b)
theorem aUd (a b:Block):gM Tryz.prog .eql 74 (.agg (aP a)) (.agg (aP b))=some (.v (.bool (decide (a=b)))):=by simp only[gM,aIr,Option.map_some]
theorem aUe (a b:Block):gM Tryz.prog .neq 74 (.agg (aP a)) (.agg (aP b))=some (.v (.bool (!(decide (a=b))))):=by simp only[gM,aIr,Option.map_some]
theorem aUf (st:St) (parts:List (Nat × Operand)):iW Tryz.prog st 74 parts=if (parts.all fun p=>(st.ev p.2).jD)=true then (gS (fun i=>([(0,66),(66,1),(67,32),(99,32),(131,32),(163,4),(167,4),(171,33),(204,33),(237,1)]:List (Nat × Nat))[i]?) (aP eA) (parts.map fun p=>(p.1,st.ev p.2))).map .agg else none:=iI (z:=Fg) (by kernel_rfl) Qe (fD (by kernel_rfl))
theorem aUg (cs:List AV) (o:Nat) (h:240≤cs.length-o):fB Tryz.prog 76 cs o=some (.agg (rd cs o 240)):=by
 have:fQ Tryz.prog 76=some (true,240):=by kernel_rfl
 simp[fB,this,h]
theorem aUh:sL Tryz.prog 76=some 240:=by kernel_rfl
theorem aIs:bA Tryz.prog 76 0=some 0:=by kernel_rfl
theorem aIt:bA Tryz.prog 76 1=some 238:=by kernel_rfl
theorem aIu:bA Tryz.prog 76 2=some 239:=by kernel_rfl
theorem aIv:eI Tryz.prog 76=some AN:=by kernel_rfl
theorem aOa (a b:Node):vD Tryz.prog 76 (fK a) (fK b)=some (decide (a=b)):=rI (l:=aGd) (by kernel_rfl) (by kernel_rfl) (by kernel_rfl) (Xn a b) (K4 a b)
theorem aUi (a b:Node):gM Tryz.prog .neq 76 (.agg (fK a)) (.agg (fK b))=some (.v (.bool (!(decide (a=b))))):=by simp only[gM,aOa,Option.map_some]
theorem aUj (st:St) (parts:List (Nat × Operand)):iW Tryz.prog st 76 parts=if (parts.all fun p=>(st.ev p.2).jD)=true then (gS (fun i=>([(0,238),(238,1),(239,1)]:List (Nat × Nat))[i]?) (fK A6) (parts.map fun p=>(p.1,st.ev p.2))).map .agg else none:=iI (z:=AN) (by kernel_rfl) JZ (fD (by kernel_rfl))
theorem aUk (cs:List AV) (o:Nat) (h:1≤cs.length-o):fB Tryz.prog 50 cs o=some (.agg (rd cs o 1)):=by
 have:fQ Tryz.prog 50=some (true,1):=by kernel_rfl
 simp[fB,this,h]
theorem aUl:sL Tryz.prog 50=some 1:=by kernel_rfl
theorem aIw:bA Tryz.prog 50 0=some 0:=by kernel_rfl
theorem aUm:eI Tryz.prog 50=some [.slice none 0 0]:=by kernel_rfl
theorem aUn (st:St) (parts:List (Nat × Operand)):iW Tryz.prog st 50 parts=if (parts.all fun p=>(st.ev p.2).jD)=true then (gS (fun i=>([(0,1)]:List (Nat × Nat))[i]?) [.v (.slice none 0 0)] (parts.map fun p=>(p.1,st.ev p.2))).map .agg else none:=iI (z:=[.slice none 0 0]) (by kernel_rfl) rfl (fD (by kernel_rfl))
theorem aUo:sL Tryz.prog 25=some 1:=by kernel_rfl
theorem aIx:bA Tryz.prog 25 0=some 0:=by kernel_rfl
theorem aUp:eI Tryz.prog 25=some Kb:=by kernel_rfl
theorem aUq (st:St) (parts:List (Nat × Operand)):iW Tryz.prog st 25 parts=if (parts.all fun p=>(st.ev p.2).jD)=true then (gS (fun i=>([(0,1)]:List (Nat × Nat))[i]?) (mR Wo) (parts.map fun p=>(p.1,st.ev p.2))).map .agg else none:=iI (z:=Kb) (by kernel_rfl) Kc (fD (by kernel_rfl))
theorem aUr (cs:List AV) (o:Nat) (h:34≤cs.length-o):fB Tryz.prog 29 cs o=some (.agg (rd cs o 34)):=by
 have:fQ Tryz.prog 29=some (true,34):=by kernel_rfl
 simp[fB,this,h]
theorem aUs:sL Tryz.prog 29=some 34:=by kernel_rfl
theorem aIy:bA Tryz.prog 29 0=some 0:=by kernel_rfl
theorem aIz:bA Tryz.prog 29 1=some 1:=by kernel_rfl
theorem aIA:bA Tryz.prog 29 2=some 2:=by kernel_rfl
theorem aUt:eI Tryz.prog 29=some Dr:=by kernel_rfl
theorem aOb (a b:gV):vD Tryz.prog 29 (dL a) (dL b)=some (decide (a=b)):=rI (l:=RS) (by kernel_rfl) (by kernel_rfl) (by kernel_rfl) (DT a b) (KF a b)
theorem aUu (a b:gV):gM Tryz.prog .eql 29 (.agg (dL a)) (.agg (dL b))=some (.v (.bool (decide (a=b)))):=by simp only[gM,aOb,Option.map_some]
theorem aUv (st:St) (parts:List (Nat × Operand)):iW Tryz.prog st 29 parts=if (parts.all fun p=>(st.ev p.2).jD)=true then (gS (fun i=>([(0,1),(1,1),(2,32)]:List (Nat × Nat))[i]?) (dL AQ) (parts.map fun p=>(p.1,st.ev p.2))).map .agg else none:=iI (z:=Dr) (by kernel_rfl) Mu (fD (by kernel_rfl))
theorem aUw (cs:List AV) (o:Nat) (h:6≤cs.length-o):fB Tryz.prog 31 cs o=some (.agg (rd cs o 6)):=by
 have:fQ Tryz.prog 31=some (true,6):=by kernel_rfl
 simp[fB,this,h]
theorem aUx:sL Tryz.prog 31=some 6:=by kernel_rfl
theorem aIB:bA Tryz.prog 31 0=some 0:=by kernel_rfl
theorem aIC:bA Tryz.prog 31 1=some 1:=by kernel_rfl
theorem aID:bA Tryz.prog 31 2=some 2:=by kernel_rfl
theorem aIE:bA Tryz.prog 31 3=some 3:=by kernel_rfl
theorem aIF:bA Tryz.prog 31 4=some 4:=by kernel_rfl
theorem aIG:bA Tryz.prog 31 5=some 5:=by kernel_rfl
theorem aUy:eI Tryz.prog 31=some Ql:=by kernel_rfl
theorem aOc (a b:lH):vD Tryz.prog 31 (fP a) (fP b)=some (decide (a=b)):=rI (l:=B4) (by kernel_rfl) (by kernel_rfl) (by kernel_rfl) (KH a b) (RT a b)
theorem aUz (a b:lH):gM Tryz.prog .neq 31 (.agg (fP a)) (.agg (fP b))=some (.v (.bool (!(decide (a=b))))):=by simp only[gM,aOc,Option.map_some]
theorem aUA (st:St) (parts:List (Nat × Operand)):iW Tryz.prog st 31 parts=if (parts.all fun p=>(st.ev p.2).jD)=true then (gS (fun i=>([(0,1),(1,1),(2,1),(3,1),(4,1),(5,1)]:List (Nat × Nat))[i]?) (fP KG) (parts.map fun p=>(p.1,st.ev p.2))).map .agg else none:=iI (z:=Ql) (by kernel_rfl) Sx (fD (by kernel_rfl))
theorem aUB (cs:List AV) (o:Nat) (h:45≤cs.length-o):fB Tryz.prog 36 cs o=some (.agg (rd cs o 45)):=by
 have:fQ Tryz.prog 36=some (true,45):=by kernel_rfl
 simp[fB,this,h]
theorem aUC:sL Tryz.prog 36=some 45:=by kernel_rfl
theorem aIH:bA Tryz.prog 36 0=some 0:=by kernel_rfl
theorem aII:bA Tryz.prog 36 1=some 6:=by kernel_rfl
theorem aIJ:bA Tryz.prog 36 2=some 7:=by kernel_rfl
theorem aIK:bA Tryz.prog 36 3=some 8:=by kernel_rfl
theorem aIL:bA Tryz.prog 36 4=some 12:=by kernel_rfl
theorem aIM:bA Tryz.prog 36 5=some 44:=by kernel_rfl
theorem aUD:eI Tryz.prog 36=some Qp:=by kernel_rfl
theorem aUE (st:St) (parts:List (Nat × Operand)):iW Tryz.prog st 36 parts=if (parts.all fun p=>(st.ev p.2).jD)=true then (gS (fun i=>([(0,6),(6,1),(7,1),(8,4),(12,32),(44,1)]:List (Nat × Nat))[i]?) (bW mQ) (parts.map fun p=>(p.1,st.ev p.2))).map .agg else none:=iI (z:=Qp) (by kernel_rfl) Sz (fD (by kernel_rfl))
theorem aOd (cs:List AV) (o:Nat) (h:34≤cs.length-o):fB Tryz.prog 100 cs o=some (.agg (rd cs o 34)):=by
 have:fQ Tryz.prog 100=some (true,34):=by kernel_rfl
 simp[fB,this,h]
theorem aFu:sL Tryz.prog 100=some 34:=by kernel_rfl
theorem aEi:bA Tryz.prog 100 0=some 0:=by kernel_rfl
theorem aEj:bA Tryz.prog 100 1=some 1:=by kernel_rfl
theorem aEk:bA Tryz.prog 100 2=some 2:=by kernel_rfl
theorem aGg:eI Tryz.prog 100=some B5:=by kernel_rfl
theorem aGh (a b:kO):vD Tryz.prog 100 (jO a) (jO b)=some (decide (a=b)):=rI (l:=aGf) (by kernel_rfl) (by kernel_rfl) (by kernel_rfl) (YH a b) (L4 a b)
theorem aOe (a b:kO):gM Tryz.prog .neq 100 (.agg (jO a)) (.agg (jO b))=some (.v (.bool (!(decide (a=b))))):=by simp only[gM,aGh,Option.map_some]
theorem aOf (st:St) (parts:List (Nat × Operand)):iW Tryz.prog st 100 parts=if (parts.all fun p=>(st.ev p.2).jD)=true then (gS (fun i=>([(0,1),(1,1),(2,32)]:List (Nat × Nat))[i]?) (jO tN) (parts.map fun p=>(p.1,st.ev p.2))).map .agg else none:=iI (z:=B5) (by kernel_rfl) B6 (fD (by kernel_rfl))
theorem aUF (cs:List AV) (o:Nat) (h:67≤cs.length-o):fB Tryz.prog 87 cs o=some (.agg (rd cs o 67)):=by
 have:fQ Tryz.prog 87=some (true,67):=by kernel_rfl
 simp[fB,this,h]
theorem aUG:sL Tryz.prog 87=some 67:=by kernel_rfl
theorem aIN:bA Tryz.prog 87 0=some 0:=by kernel_rfl
theorem aIO:bA Tryz.prog 87 1=some 1:=by kernel_rfl
theorem aIP:bA Tryz.prog 87 2=some 33:=by kernel_rfl
theorem aIQ:bA Tryz.prog 87 3=some 66:=by kernel_rfl
theorem aOg:eI Tryz.prog 87=some aBt:=by kernel_rfl
theorem aUH (st:St) (parts:List (Nat × Operand)):iW Tryz.prog st 87 parts=if (parts.all fun p=>(st.ev p.2).jD)=true then (gS (fun i=>([(0,1),(1,32),(33,33),(66,1)]:List (Nat × Nat))[i]?) (iD Hw) (parts.map fun p=>(p.1,st.ev p.2))).map .agg else none:=iI (z:=aBt) (by kernel_rfl) YI (fD (by kernel_rfl))
theorem aOh (cs:List AV) (o:Nat) (h:35≤cs.length-o):fB Tryz.prog 186 cs o=some (.agg (rd cs o 35)):=by
 have:fQ Tryz.prog 186=some (true,35):=by kernel_rfl
 simp[fB,this,h]
theorem aOi:sL Tryz.prog 186=some 35:=by kernel_rfl
theorem aEl:bA Tryz.prog 186 0=some 0:=by kernel_rfl
theorem aEm:bA Tryz.prog 186 1=some 1:=by kernel_rfl
theorem aEn:bA Tryz.prog 186 2=some 2:=by kernel_rfl
theorem aEo:bA Tryz.prog 186 3=some 34:=by kernel_rfl
theorem aOj:eI Tryz.prog 186=some Ta:=by kernel_rfl
theorem aOk (st:St) (parts:List (Nat × Operand)):iW Tryz.prog st 186 parts=if (parts.all fun p=>(st.ev p.2).jD)=true then (gS (fun i=>([(0,1),(1,1),(2,32),(34,1)]:List (Nat × Nat))[i]?) (gU KM) (parts.map fun p=>(p.1,st.ev p.2))).map .agg else none:=iI (z:=Ta) (by kernel_rfl) AU (fD (by kernel_rfl))
theorem aOl (cs:List AV) (o:Nat) (h:70≤cs.length-o):fB Tryz.prog 188 cs o=some (.agg (rd cs o 70)):=by
 have:fQ Tryz.prog 188=some (true,70):=by kernel_rfl
 simp[fB,this,h]
theorem aOm:sL Tryz.prog 188=some 70:=by kernel_rfl
theorem aEp:bA Tryz.prog 188 0=some 0:=by kernel_rfl
theorem aEq:bA Tryz.prog 188 1=some 35:=by kernel_rfl
theorem aOn:eI Tryz.prog 188=some Ef:=by kernel_rfl
theorem aOo (st:St) (parts:List (Nat × Operand)):iW Tryz.prog st 188 parts=if (parts.all fun p=>(st.ev p.2).jD)=true then (gS (fun i=>([(0,35),(35,35)]:List (Nat × Nat))[i]?) (cD Tb) (parts.map fun p=>(p.1,st.ev p.2))).map .agg else none:=iI (z:=Ef) (by kernel_rfl) Iv (fD (by kernel_rfl))
theorem aOp (cs:List AV) (o:Nat) (h:34≤cs.length-o):fB Tryz.prog 118 cs o=some (.agg (rd cs o 34)):=by
 have:fQ Tryz.prog 118=some (true,34):=by kernel_rfl
 simp[fB,this,h]
theorem aF5:sL Tryz.prog 118=some 34:=by kernel_rfl
theorem aEr:bA Tryz.prog 118 0=some 0:=by kernel_rfl
theorem aEs:bA Tryz.prog 118 1=some 33:=by kernel_rfl
theorem Z5:eI Tryz.prog 118=some Mh:=by kernel_rfl
theorem aOq (st:St) (parts:List (Nat × Operand)):iW Tryz.prog st 118 parts=if (parts.all fun p=>(st.ev p.2).jD)=true then (gS (fun i=>([(0,33),(33,1)]:List (Nat × Nat))[i]?) (cA dZ) (parts.map fun p=>(p.1,st.ev p.2))).map .agg else none:=iI (z:=Mh) (by kernel_rfl) AW (fD (by kernel_rfl))
theorem aUI (cs:List AV) (o:Nat) (h:35≤cs.length-o):fB Tryz.prog 63 cs o=some (.agg (rd cs o 35)):=by
 have:fQ Tryz.prog 63=some (true,35):=by kernel_rfl
 simp[fB,this,h]
theorem aHe:sL Tryz.prog 63=some 35:=by kernel_rfl
theorem aIR:bA Tryz.prog 63 0=some 0:=by kernel_rfl
theorem aIS:bA Tryz.prog 63 1=some 1:=by kernel_rfl
theorem aIT:bA Tryz.prog 63 2=some 33:=by kernel_rfl
theorem aIU:bA Tryz.prog 63 3=some 34:=by kernel_rfl
theorem aOr:eI Tryz.prog 63=some Qu:=by kernel_rfl
theorem aUJ (st:St) (parts:List (Nat × Operand)):iW Tryz.prog st 63 parts=if (parts.all fun p=>(st.ev p.2).jD)=true then (gS (fun i=>([(0,1),(1,32),(33,1),(34,1)]:List (Nat × Nat))[i]?) (dF cY) (parts.map fun p=>(p.1,st.ev p.2))).map .agg else none:=iI (z:=Qu) (by kernel_rfl) AY (fD (by kernel_rfl))
theorem aUK (cs:List AV) (o:Nat) (h:96≤cs.length-o):fB Tryz.prog 56 cs o=some (.agg (rd cs o 96)):=by
 have:fQ Tryz.prog 56=some (true,96):=by kernel_rfl
 simp[fB,this,h]
theorem aUL:sL Tryz.prog 56=some 96:=by kernel_rfl
theorem aIV:bA Tryz.prog 56 0=some 0:=by kernel_rfl
theorem aIW:bA Tryz.prog 56 1=some 32:=by kernel_rfl
theorem aIX:bA Tryz.prog 56 2=some 64:=by kernel_rfl
theorem aOs:eI Tryz.prog 56=some Iw:=by kernel_rfl
theorem aOt (a b:Command):vD Tryz.prog 56 (eK a) (eK b)=some (decide (a=b)):=rI (l:=SF) (by kernel_rfl) (by kernel_rfl) (by kernel_rfl) (EF a b) (KQ a b)
theorem aUM (a b:Command):gM Tryz.prog .eql 56 (.agg (eK a)) (.agg (eK b))=some (.v (.bool (decide (a=b)))):=by simp only[gM,aOt,Option.map_some]
theorem aUN (st:St) (parts:List (Nat × Operand)):iW Tryz.prog st 56 parts=if (parts.all fun p=>(st.ev p.2).jD)=true then (gS (fun i=>([(0,32),(32,32),(64,32)]:List (Nat × Nat))[i]?) (eK BC) (parts.map fun p=>(p.1,st.ev p.2))).map .agg else none:=iI (z:=Iw) (by kernel_rfl) Na (fD (by kernel_rfl))
theorem aUO (cs:List AV) (o:Nat) (h:2≤cs.length-o):fB Tryz.prog 39 cs o=some (.agg (rd cs o 2)):=by
 have:fQ Tryz.prog 39=some (true,2):=by kernel_rfl
 simp[fB,this,h]
theorem aUP:sL Tryz.prog 39=some 2:=by kernel_rfl
theorem aIY:bA Tryz.prog 39 0=some 0:=by kernel_rfl
theorem aIZ:bA Tryz.prog 39 1=some 1:=by kernel_rfl
theorem aUQ:eI Tryz.prog 39=some BF:=by kernel_rfl
theorem aUR (st:St) (parts:List (Nat × Operand)):iW Tryz.prog st 39 parts=if (parts.all fun p=>(st.ev p.2).jD)=true then (gS (fun i=>([(0,1),(1,1)]:List (Nat × Nat))[i]?) (fF Lv) (parts.map fun p=>(p.1,st.ev p.2))).map .agg else none:=iI (z:=BF) (by kernel_rfl) BG (fD (by kernel_rfl))
theorem aUS (cs:List AV) (o:Nat) (h:66≤cs.length-o):fB Tryz.prog 43 cs o=some (.agg (rd cs o 66)):=by
 have:fQ Tryz.prog 43=some (true,66):=by kernel_rfl
 simp[fB,this,h]
theorem aUT:sL Tryz.prog 43=some 66:=by kernel_rfl
theorem aI0:bA Tryz.prog 43 0=some 0:=by kernel_rfl
theorem aI1:bA Tryz.prog 43 1=some 33:=by kernel_rfl
theorem aUU:eI Tryz.prog 43=some Ei:=by kernel_rfl
theorem aOu (a b:kD):vD Tryz.prog 43 (eR a) (eR b)=some (decide (a=b)):=rI (l:=GX) (by kernel_rfl) (by kernel_rfl) (by kernel_rfl) (BH a b) (EG a b)
theorem aUV (a b:kD):gM Tryz.prog .neq 43 (.agg (eR a)) (.agg (eR b))=some (.v (.bool (!(decide (a=b))))):=by simp only[gM,aOu,Option.map_some]
theorem aUW (st:St) (parts:List (Nat × Operand)):iW Tryz.prog st 43 parts=if (parts.all fun p=>(st.ev p.2).jD)=true then (gS (fun i=>([(0,33),(33,33)]:List (Nat × Nat))[i]?) (eR Tg) (parts.map fun p=>(p.1,st.ev p.2))).map .agg else none:=iI (z:=Ei) (by kernel_rfl) Iy (fD (by kernel_rfl))
theorem aUX:sL Tryz.prog 47=some 2:=by kernel_rfl
theorem aI2:bA Tryz.prog 47 0=some 0:=by kernel_rfl
theorem aI3:bA Tryz.prog 47 1=some 1:=by kernel_rfl
theorem aUY:eI Tryz.prog 47=some Wp:=by kernel_rfl
theorem aUZ (cs:List AV) (o:Nat) (h:150≤cs.length-o):fB Tryz.prog 53 cs o=some (.agg (rd cs o 150)):=by
 have:fQ Tryz.prog 53=some (true,150):=by kernel_rfl
 simp[fB,this,h]
theorem aU0:sL Tryz.prog 53=some 150:=by kernel_rfl
theorem aI4:bA Tryz.prog 53 0=some 0:=by kernel_rfl
theorem aI5:bA Tryz.prog 53 1=some 45:=by kernel_rfl
theorem aI6:bA Tryz.prog 53 2=some 47:=by kernel_rfl
theorem aI7:bA Tryz.prog 53 3=some 113:=by kernel_rfl
theorem aI8:bA Tryz.prog 53 4=some 115:=by kernel_rfl
theorem aI9:bA Tryz.prog 53 5=some 116:=by kernel_rfl
theorem aJa:bA Tryz.prog 53 6=some 117:=by kernel_rfl
theorem aJb:bA Tryz.prog 53 7=some 149:=by kernel_rfl
theorem aU1:eI Tryz.prog 53=some BK:=by kernel_rfl
theorem aU2 (st:St) (parts:List (Nat × Operand)):iW Tryz.prog st 53 parts=if (parts.all fun p=>(st.ev p.2).jD)=true then (gS (fun i=>([(0,45),(45,2),(47,66),(113,2),(115,1),(116,1),(117,32),(149,1)]:List (Nat × Nat))[i]?) (aA gA) (parts.map fun p=>(p.1,st.ev p.2))).map .agg else none:=iI (z:=BK) (by kernel_rfl) BL (fD (by kernel_rfl))
theorem aU3 (cs:List AV) (o:Nat) (h:252≤cs.length-o):fB Tryz.prog 58 cs o=some (.agg (rd cs o 252)):=by
 have:fQ Tryz.prog 58=some (true,252):=by kernel_rfl
 simp[fB,this,h]
theorem aU4:sL Tryz.prog 58=some 252:=by kernel_rfl
theorem aJc:bA Tryz.prog 58 0=some 0:=by kernel_rfl
theorem aJd:bA Tryz.prog 58 1=some 150:=by kernel_rfl
theorem aJe:bA Tryz.prog 58 2=some 151:=by kernel_rfl
theorem aJf:bA Tryz.prog 58 3=some 152:=by kernel_rfl
theorem aJg:bA Tryz.prog 58 4=some 153:=by kernel_rfl
theorem aJh:bA Tryz.prog 58 5=some 154:=by kernel_rfl
theorem aJi:bA Tryz.prog 58 6=some 250:=by kernel_rfl
theorem aJj:bA Tryz.prog 58 7=some 251:=by kernel_rfl
theorem aU5:eI Tryz.prog 58=some KW:=by kernel_rfl
theorem aU6 (st:St) (parts:List (Nat × Operand)):iW Tryz.prog st 58 parts=if (parts.all fun p=>(st.ev p.2).jD)=true then (gS (fun i=>([(0,150),(150,1),(151,1),(152,1),(153,1),(154,96),(250,1),(251,1)]:List (Nat × Nat))[i]?) (aQ lZ) (parts.map fun p=>(p.1,st.ev p.2))).map .agg else none:=iI (z:=KW) (by kernel_rfl) SH (fD (by kernel_rfl))
theorem aOv (cs:List AV) (o:Nat) (h:446≤cs.length-o):fB Tryz.prog 190 cs o=some (.agg (rd cs o 446)):=by
 have:fQ Tryz.prog 190=some (true,446):=by kernel_rfl
 simp[fB,this,h]
theorem aOw:sL Tryz.prog 190=some 446:=by kernel_rfl
theorem aEt:bA Tryz.prog 190 0=some 0:=by kernel_rfl
theorem aEu:bA Tryz.prog 190 1=some 1:=by kernel_rfl
theorem aEv:bA Tryz.prog 190 2=some 239:=by kernel_rfl
theorem aEw:bA Tryz.prog 190 3=some 306:=by kernel_rfl
theorem aEx:bA Tryz.prog 190 4=some 376:=by kernel_rfl
theorem aEy:bA Tryz.prog 190 5=some 410:=by kernel_rfl
theorem aEz:bA Tryz.prog 190 6=some 444:=by kernel_rfl
theorem aEA:bA Tryz.prog 190 7=some 445:=by kernel_rfl
theorem aGi:eI Tryz.prog 190=some aEh:=by kernel_rfl
theorem aOx (st:St) (parts:List (Nat × Operand)):iW Tryz.prog st 190 parts=if (parts.all fun p=>(st.ev p.2).jD)=true then (gS (fun i=>([(0,1),(1,238),(239,67),(306,70),(376,34),(410,34),(444,1),(445,1)]:List (Nat × Nat))[i]?) (lA zX) (parts.map fun p=>(p.1,st.ev p.2))).map .agg else none:=iI (z:=aEh) (by kernel_rfl) aBu (fD (by kernel_rfl))
theorem aJk (cs:List AV) (h:150≤cs.length):Cd Tryz.prog 58 0 (.agg cs)=some (.agg (rd cs 0 150)):=XH (by kernel_rfl) h
theorem aJl (cs:List AV):Cd Tryz.prog 41 0 (.agg cs)=cs[0]?:=XI (k:=1) (by kernel_rfl)
theorem Ln:dW Tryz.prog 22=some (3,1,8):=by kernel_rfl
theorem aEB:jJ Tryz.prog 22=none:=by kernel_rfl
theorem aU7 (cs:List AV) (o:Nat):fB Tryz.prog 22 cs o=cs[o]?:=by
 have:fQ Tryz.prog 22=some (false,1):=by kernel_rfl
 simp only[fB,this]
theorem aU8:sL Tryz.prog 22=some 1:=by kernel_rfl
theorem aU9:eI Tryz.prog 22=some [.slice none 0 0]:=by kernel_rfl
theorem aVa (n:Nat) (cs:List AV) (h:cs≠[]):gM Tryz.prog .eql 22 (.sl n cs) (.v (.slice none 0 0))=some (.v (.bool false)):=by
 have:Tryz.prog.underlying 22=some (.slice 3):=by kernel_rfl
 cases cs with
 | nil=>exact absurd rfl h
 | cons c cs=>simp[gM,vJ,this]
theorem aVb:gM Tryz.prog .eql 22 (.v (.slice none 0 0)) (.v (.slice none 0 0))=some (.v (.bool true)):=by
 have:Tryz.prog.underlying 22=some (.slice 3):=by kernel_rfl
 simp[gM,vJ,this]
theorem YT:dW Tryz.prog 34=some (23,1,8):=by kernel_rfl
theorem aJm:jJ Tryz.prog 34=none:=by kernel_rfl
theorem aVc (cs:List AV) (o:Nat):fB Tryz.prog 34 cs o=cs[o]?:=by
 have:fQ Tryz.prog 34=some (false,1):=by kernel_rfl
 simp only[fB,this]
theorem aVd:sL Tryz.prog 34=some 1:=by kernel_rfl
theorem aVe:eI Tryz.prog 34=some [.slice none 0 0]:=by kernel_rfl
theorem aVf (n:Nat) (cs:List AV) (h:cs≠[]):gM Tryz.prog .eql 34 (.sl n cs) (.v (.slice none 0 0))=some (.v (.bool false)):=by
 have:Tryz.prog.underlying 34=some (.slice 23):=by kernel_rfl
 cases cs with
 | nil=>exact absurd rfl h
 | cons c cs=>simp[gM,vJ,this]
theorem aVg:gM Tryz.prog .eql 34 (.v (.slice none 0 0)) (.v (.slice none 0 0))=some (.v (.bool true)):=by
 have:Tryz.prog.underlying 34=some (.slice 23):=by kernel_rfl
 simp[gM,vJ,this]
theorem L7:dW Tryz.prog 37=some (100,34,48):=by kernel_rfl
theorem aJn:jJ Tryz.prog 37=none:=by kernel_rfl
theorem aVh (cs:List AV) (o:Nat):fB Tryz.prog 37 cs o=cs[o]?:=by
 have:fQ Tryz.prog 37=some (false,1):=by kernel_rfl
 simp only[fB,this]
theorem aVi:sL Tryz.prog 37=some 1:=by kernel_rfl
theorem aVj:eI Tryz.prog 37=some [.slice none 0 0]:=by kernel_rfl
theorem aVk (n:Nat) (cs:List AV) (h:cs≠[]):gM Tryz.prog .eql 37 (.sl n cs) (.v (.slice none 0 0))=some (.v (.bool false)):=by
 have:Tryz.prog.underlying 37=some (.slice 100):=by kernel_rfl
 cases cs with
 | nil=>exact absurd rfl h
 | cons c cs=>simp[gM,vJ,this]
theorem aVl:gM Tryz.prog .eql 37 (.v (.slice none 0 0)) (.v (.slice none 0 0))=some (.v (.bool true)):=by
 have:Tryz.prog.underlying 37=some (.slice 100):=by kernel_rfl
 simp[gM,vJ,this]
theorem aBv:dW Tryz.prog 44=some (87,67,104):=by kernel_rfl
theorem aOy:jJ Tryz.prog 44=none:=by kernel_rfl
theorem aVm (cs:List AV) (o:Nat):fB Tryz.prog 44 cs o=cs[o]?:=by
 have:fQ Tryz.prog 44=some (false,1):=by kernel_rfl
 simp only[fB,this]
theorem aVn:sL Tryz.prog 44=some 1:=by kernel_rfl
theorem aVo:eI Tryz.prog 44=some [.slice none 0 0]:=by kernel_rfl
theorem nU:dW Tryz.prog 45=some (74,238,336):=by kernel_rfl
theorem aJo:jJ Tryz.prog 45=none:=by kernel_rfl
theorem aVp (cs:List AV) (o:Nat):fB Tryz.prog 45 cs o=cs[o]?:=by
 have:fQ Tryz.prog 45=some (false,1):=by kernel_rfl
 simp only[fB,this]
theorem aVq:sL Tryz.prog 45=some 1:=by kernel_rfl
theorem aVr:eI Tryz.prog 45=some [.slice none 0 0]:=by kernel_rfl
theorem aVs (n:Nat) (cs:List AV) (h:cs≠[]):gM Tryz.prog .eql 45 (.sl n cs) (.v (.slice none 0 0))=some (.v (.bool false)):=by
 have:Tryz.prog.underlying 45=some (.slice 74):=by kernel_rfl
 cases cs with
 | nil=>exact absurd rfl h
 | cons c cs=>simp[gM,vJ,this]
theorem aVt:gM Tryz.prog .eql 45 (.v (.slice none 0 0)) (.v (.slice none 0 0))=some (.v (.bool true)):=by
 have:Tryz.prog.underlying 45=some (.slice 74):=by kernel_rfl
 simp[gM,vJ,this]
theorem SK:dW Tryz.prog 48=some (76,240,352):=by kernel_rfl
theorem aJp:jJ Tryz.prog 48=none:=by kernel_rfl
theorem aVu (cs:List AV) (o:Nat):fB Tryz.prog 48 cs o=cs[o]?:=by
 have:fQ Tryz.prog 48=some (false,1):=by kernel_rfl
 simp only[fB,this]
theorem aVv:sL Tryz.prog 48=some 1:=by kernel_rfl
theorem aVw:eI Tryz.prog 48=some [.slice none 0 0]:=by kernel_rfl
theorem aVx (n:Nat) (cs:List AV) (h:cs≠[]):gM Tryz.prog .eql 48 (.sl n cs) (.v (.slice none 0 0))=some (.v (.bool false)):=by
 have:Tryz.prog.underlying 48=some (.slice 76):=by kernel_rfl
 cases cs with
 | nil=>exact absurd rfl h
 | cons c cs=>simp[gM,vJ,this]
theorem Sa:dW Tryz.prog 51=some (118,34,64):=by kernel_rfl
theorem aJq:jJ Tryz.prog 51=none:=by kernel_rfl
theorem aVy (cs:List AV) (o:Nat):fB Tryz.prog 51 cs o=cs[o]?:=by
 have:fQ Tryz.prog 51=some (false,1):=by kernel_rfl
 simp only[fB,this]
theorem aVz:sL Tryz.prog 51=some 1:=by kernel_rfl
theorem aVA:eI Tryz.prog 51=some [.slice none 0 0]:=by kernel_rfl
theorem Rw:dW Tryz.prog 54=some (63,35,56):=by kernel_rfl
theorem aJr:jJ Tryz.prog 54=none:=by kernel_rfl
theorem aVB (cs:List AV) (o:Nat):fB Tryz.prog 54 cs o=cs[o]?:=by
 have:fQ Tryz.prog 54=some (false,1):=by kernel_rfl
 simp only[fB,this]
theorem aVC:sL Tryz.prog 54=some 1:=by kernel_rfl
theorem aVD:eI Tryz.prog 54=some [.slice none 0 0]:=by kernel_rfl
theorem aEC:dW Tryz.prog 70=some (27,32,32):=by kernel_rfl
theorem aOz:jJ Tryz.prog 70=none:=by kernel_rfl
theorem aVE:sL Tryz.prog 70=some 1:=by kernel_rfl
theorem aVF:eI Tryz.prog 70=some [.slice none 0 0]:=by kernel_rfl
theorem MZ:dW Tryz.prog 109=some (41,33,40):=by kernel_rfl
theorem aBw:jJ Tryz.prog 109=none:=by kernel_rfl
theorem aOA:sL Tryz.prog 109=some 1:=by kernel_rfl
theorem aOB:eI Tryz.prog 109=some [.slice none 0 0]:=by kernel_rfl
theorem B7:dW Tryz.prog 124=some (190,446,720):=by kernel_rfl
theorem aOC:jJ Tryz.prog 124=none:=by kernel_rfl
theorem aOD:sL Tryz.prog 124=some 1:=by kernel_rfl
theorem aOE:eI Tryz.prog 124=some [.slice none 0 0]:=by kernel_rfl
theorem aGj:dW Tryz.prog 181=some (56,96,96):=by kernel_rfl
theorem aOF:jJ Tryz.prog 181=none:=by kernel_rfl
theorem aOG:sL Tryz.prog 181=some 1:=by kernel_rfl
theorem aOH:eI Tryz.prog 181=some [.slice none 0 0]:=by kernel_rfl
theorem B8:dW Tryz.prog 236=some (5,1,1):=by kernel_rfl
theorem aOI:jJ Tryz.prog 236=none:=by kernel_rfl
theorem aOJ:sL Tryz.prog 236=some 1:=by kernel_rfl
theorem aOK:eI Tryz.prog 236=some [.slice none 0 0]:=by kernel_rfl
theorem SL:dW Tryz.prog 262=some (4,1,1):=by kernel_rfl
theorem aGk:jJ Tryz.prog 262=none:=by kernel_rfl
theorem aOL:sL Tryz.prog 262=some 1:=by kernel_rfl
theorem aOM:eI Tryz.prog 262=some [.slice none 0 0]:=by kernel_rfl
theorem aVG {call:Nat→List AV→Option AV} {ops:Array Oper} {st:St} {T:Nat} {pos:String} {eU:Array Edge} (d:Nat):cI Tryz.prog call ops ⟨some d,.buildSlice 22 0 #[],T,pos,eU,none⟩ st=some ((st.new d (.row 3 1 0 [])).put (some d) (.own d (st.aT d))):=AP Ln ze3 d
theorem aVH (st:St) (x:AV):dJ Tryz.prog st 34 (.v (.slice none 0 0)) x=yJ 23 1 8 (aX st x):=uV YT x
theorem aVI (st:St) (s g:Nat) (x:AV):dJ Tryz.prog st 34 (.own s g) x=xY 23 1 8 (st.heap s g) s g (aX st x):=sW YT s g x
theorem aVJ (st:St) (s g:Nat) (kk:IntKind) (i:Int):bH Tryz.prog st 34 (.own s g) (.v (.int kk i))=LX 23 1 (st.heap s g) s g i:=Ka aJm YT s g kk i
theorem aVK {call:Nat→List AV→Option AV} {ops:Array Oper} {st:St} {T:Nat} {pos:String} {eU:Array Edge} (d:Nat):cI Tryz.prog call ops ⟨some d,.buildSlice 34 0 #[],T,pos,eU,none⟩ st=some ((st.new d (.row 23 1 0 [])).put (some d) (.own d (st.aT d))):=AP YT aIa d
theorem aVL {call:Nat→List AV→Option AV} {ops:Array Oper} {st:St} {T:Nat} {pos:String} {eU:Array Edge} (d:Nat) (x:Operand):cI Tryz.prog call ops ⟨some d,.buildSlice 34 1 #[(0,x)],T,pos,eU,none⟩ st=elV (st.ev x) (fun y=>some ((st.new d (.row 23 1 1 [.v y])).put (some d) (.own d (st.aT d)))) (cI Tryz.prog call ops ⟨some d,.buildSlice 34 1 #[(0,x)],T,pos,eU,none⟩ st):=KA YT aIa d x
theorem aVM (st:St) (x:AV):dJ Tryz.prog st 37 (.v (.slice none 0 0)) x=yJ 100 34 48 (aX st x):=uV L7 x
theorem aVN (st:St) (s g:Nat) (x:AV):dJ Tryz.prog st 37 (.own s g) x=xY 100 34 48 (st.heap s g) s g (aX st x):=sW L7 s g x
theorem aVO (st:St) (s g:Nat) (kk:IntKind) (i:Int):bH Tryz.prog st 37 (.own s g) (.v (.int kk i))=LX 100 34 (st.heap s g) s g i:=Ka aJn L7 s g kk i
theorem aVP {call:Nat→List AV→Option AV} {ops:Array Oper} {st:St} {T:Nat} {pos:String} {eU:Array Edge} (d:Nat):cI Tryz.prog call ops ⟨some d,.buildSlice 37 0 #[],T,pos,eU,none⟩ st=some ((st.new d (.row 100 34 0 [])).put (some d) (.own d (st.aT d))):=AP L7 aGg d
theorem aVQ (st:St) (x:AV):dJ Tryz.prog st 44 (.v (.slice none 0 0)) x=yJ 87 67 104 (aX st x):=uV aBv x
theorem aVR (st:St) (s g:Nat) (x:AV):dJ Tryz.prog st 44 (.own s g) x=xY 87 67 104 (st.heap s g) s g (aX st x):=sW aBv s g x
theorem aVS {call:Nat→List AV→Option AV} {ops:Array Oper} {st:St} {T:Nat} {pos:String} {eU:Array Edge} (d:Nat) (x:Operand):cI Tryz.prog call ops ⟨some d,.buildSlice 44 1 #[(0,x)],T,pos,eU,none⟩ st=K6 67 (st.ev x) (fun cs=>some ((st.new d (.row 87 67 1 cs)).put (some d) (.own d (st.aT d)))) (cI Tryz.prog call ops ⟨some d,.buildSlice 44 1 #[(0,x)],T,pos,eU,none⟩ st):=By aBv aOg (by rfl) (by decide) d x
theorem aVT (st:St) (x:AV):dJ Tryz.prog st 45 (.v (.slice none 0 0)) x=yJ 74 238 336 (aX st x):=uV nU x
theorem aVU (st:St) (s g:Nat) (x:AV):dJ Tryz.prog st 45 (.own s g) x=xY 74 238 336 (st.heap s g) s g (aX st x):=sW nU s g x
theorem aVV (st:St) (s g:Nat) (kk:IntKind) (i:Int):bH Tryz.prog st 45 (.own s g) (.v (.int kk i))=LX 74 238 (st.heap s g) s g i:=Ka aJo nU s g kk i
theorem aVW {call:Nat→List AV→Option AV} {ops:Array Oper} {st:St} {T:Nat} {pos:String} {eU:Array Edge} (d:Nat):cI Tryz.prog call ops ⟨some d,.buildSlice 45 0 #[],T,pos,eU,none⟩ st=some ((st.new d (.row 74 238 0 [])).put (some d) (.own d (st.aT d))):=AP nU aDl d
theorem aVX {call:Nat→List AV→Option AV} {ops:Array Oper} {st:St} {T:Nat} {pos:String} {eU:Array Edge} (d:Nat) (x:Operand):cI Tryz.prog call ops ⟨some d,.buildSlice 45 1 #[(0,x)],T,pos,eU,none⟩ st=K6 238 (st.ev x) (fun cs=>some ((st.new d (.row 74 238 1 cs)).put (some d) (.own d (st.aT d)))) (cI Tryz.prog call ops ⟨some d,.buildSlice 45 1 #[(0,x)],T,pos,eU,none⟩ st):=By nU aDl (by rfl) (by decide) d x
theorem aVY {call:Nat→List AV→Option AV} {ops:Array Oper} {st:St} {T:Nat} {pos:String} {eU:Array Edge} (d:Nat):cI Tryz.prog call ops ⟨some d,.buildSlice 48 0 #[],T,pos,eU,none⟩ st=some ((st.new d (.row 76 240 0 [])).put (some d) (.own d (st.aT d))):=AP SK aIv d
theorem aVZ (st:St) (x:AV):dJ Tryz.prog st 51 (.v (.slice none 0 0)) x=yJ 118 34 64 (aX st x):=uV Sa x
theorem aV0 (st:St) (s g:Nat) (x:AV):dJ Tryz.prog st 51 (.own s g) x=xY 118 34 64 (st.heap s g) s g (aX st x):=sW Sa s g x
theorem aV1 (st:St) (s g:Nat) (kk:IntKind) (i:Int):bH Tryz.prog st 51 (.own s g) (.v (.int kk i))=LX 118 34 (st.heap s g) s g i:=Ka aJq Sa s g kk i
theorem aV2 {call:Nat→List AV→Option AV} {ops:Array Oper} {st:St} {T:Nat} {pos:String} {eU:Array Edge} (d:Nat) (x:Operand):cI Tryz.prog call ops ⟨some d,.buildSlice 51 1 #[(0,x)],T,pos,eU,none⟩ st=K6 34 (st.ev x) (fun cs=>some ((st.new d (.row 118 34 1 cs)).put (some d) (.own d (st.aT d)))) (cI Tryz.prog call ops ⟨some d,.buildSlice 51 1 #[(0,x)],T,pos,eU,none⟩ st):=By Sa Z5 (by rfl) (by decide) d x
theorem aV3 (st:St) (x:AV):dJ Tryz.prog st 54 (.v (.slice none 0 0)) x=yJ 63 35 56 (aX st x):=uV Rw x
theorem aV4 (st:St) (s g:Nat) (x:AV):dJ Tryz.prog st 54 (.own s g) x=xY 63 35 56 (st.heap s g) s g (aX st x):=sW Rw s g x
theorem aV5 (st:St) (s g:Nat) (kk:IntKind) (i:Int):bH Tryz.prog st 54 (.own s g) (.v (.int kk i))=LX 63 35 (st.heap s g) s g i:=Ka aJr Rw s g kk i
theorem aV6 {call:Nat→List AV→Option AV} {ops:Array Oper} {st:St} {T:Nat} {pos:String} {eU:Array Edge} (d:Nat) (x:Operand):cI Tryz.prog call ops ⟨some d,.buildSlice 54 1 #[(0,x)],T,pos,eU,none⟩ st=K6 35 (st.ev x) (fun cs=>some ((st.new d (.row 63 35 1 cs)).put (some d) (.own d (st.aT d)))) (cI Tryz.prog call ops ⟨some d,.buildSlice 54 1 #[(0,x)],T,pos,eU,none⟩ st):=By Rw aOr (by rfl) (by decide) d x
theorem aV7 (st:St) (s g:Nat) (x:AV):dJ Tryz.prog st 70 (.own s g) x=xY 27 32 32 (st.heap s g) s g (aX st x):=sW aEC s g x
theorem aV8 {call:Nat→List AV→Option AV} {ops:Array Oper} {st:St} {T:Nat} {pos:String} {eU:Array Edge} (d:Nat) (x:Operand):cI Tryz.prog call ops ⟨some d,.buildSlice 70 1 #[(0,x)],T,pos,eU,none⟩ st=K6 32 (st.ev x) (fun cs=>some ((st.new d (.row 27 32 1 cs)).put (some d) (.own d (st.aT d)))) (cI Tryz.prog call ops ⟨some d,.buildSlice 70 1 #[(0,x)],T,pos,eU,none⟩ st):=By aEC aN7 (by rfl) (by decide) d x
theorem aON (st:St) (s g:Nat) (kk:IntKind) (i:Int):bH Tryz.prog st 109 (.own s g) (.v (.int kk i))=LX 41 33 (st.heap s g) s g i:=Ka aBw MZ s g kk i
theorem aOO {call:Nat→List AV→Option AV} {ops:Array Oper} {st:St} {T:Nat} {pos:String} {eU:Array Edge} (d:Nat) (x:Operand):cI Tryz.prog call ops ⟨some d,.buildSlice 109 1 #[(0,x)],T,pos,eU,none⟩ st=K6 33 (st.ev x) (fun cs=>some ((st.new d (.row 41 33 1 cs)).put (some d) (.own d (st.aT d)))) (cI Tryz.prog call ops ⟨some d,.buildSlice 109 1 #[(0,x)],T,pos,eU,none⟩ st):=By MZ aGK (by rfl) (by decide) d x
theorem aOP (st:St) (x:AV):dJ Tryz.prog st 124 (.v (.slice none 0 0)) x=yJ 190 446 720 (aX st x):=uV B7 x
theorem aOQ (st:St) (s g:Nat) (x:AV):dJ Tryz.prog st 124 (.own s g) x=xY 190 446 720 (st.heap s g) s g (aX st x):=sW B7 s g x
theorem aOR {call:Nat→List AV→Option AV} {ops:Array Oper} {st:St} {T:Nat} {pos:String} {eU:Array Edge} (d:Nat) (x:Operand):cI Tryz.prog call ops ⟨some d,.buildSlice 124 1 #[(0,x)],T,pos,eU,none⟩ st=K6 446 (st.ev x) (fun cs=>some ((st.new d (.row 190 446 1 cs)).put (some d) (.own d (st.aT d)))) (cI Tryz.prog call ops ⟨some d,.buildSlice 124 1 #[(0,x)],T,pos,eU,none⟩ st):=By B7 aGi (by rfl) (by decide) d x
theorem aOS {call:Nat→List AV→Option AV} {ops:Array Oper} {st:St} {T:Nat} {pos:String} {eU:Array Edge} (d:Nat) (x:Operand):cI Tryz.prog call ops ⟨some d,.buildSlice 181 1 #[(0,x)],T,pos,eU,none⟩ st=K6 96 (st.ev x) (fun cs=>some ((st.new d (.row 56 96 1 cs)).put (some d) (.own d (st.aT d)))) (cI Tryz.prog call ops ⟨some d,.buildSlice 181 1 #[(0,x)],T,pos,eU,none⟩ st):=By aGj aOs (by rfl) (by decide) d x
theorem aOT (st:St) (x:AV):dJ Tryz.prog st 236 (.v (.slice none 0 0)) x=yJ 5 1 1 (aX st x):=uV B8 x
theorem aOU (st:St) (s g:Nat) (x:AV):dJ Tryz.prog st 236 (.own s g) x=xY 5 1 1 (st.heap s g) s g (aX st x):=sW B8 s g x
theorem aOV {call:Nat→List AV→Option AV} {ops:Array Oper} {st:St} {T:Nat} {pos:String} {eU:Array Edge} (d:Nat) (x:Operand):cI Tryz.prog call ops ⟨some d,.buildSlice 236 1 #[(0,x)],T,pos,eU,none⟩ st=elV (st.ev x) (fun y=>some ((st.new d (.row 5 1 1 [.v y])).put (some d) (.own d (st.aT d)))) (cI Tryz.prog call ops ⟨some d,.buildSlice 236 1 #[(0,x)],T,pos,eU,none⟩ st):=KA B8 ze5 d x
theorem aOW (st:St) (x:AV):dJ Tryz.prog st 262 (.v (.slice none 0 0)) x=yJ 4 1 1 (aX st x):=uV SL x
theorem aOX (st:St) (s g:Nat) (x:AV):dJ Tryz.prog st 262 (.own s g) x=xY 4 1 1 (st.heap s g) s g (aX st x):=sW SL s g x
theorem aOY {call:Nat→List AV→Option AV} {ops:Array Oper} {st:St} {T:Nat} {pos:String} {eU:Array Edge} (d:Nat) (x:Operand):cI Tryz.prog call ops ⟨some d,.buildSlice 262 1 #[(0,x)],T,pos,eU,none⟩ st=elV (st.ev x) (fun y=>some ((st.new d (.row 4 1 1 [.v y])).put (some d) (.own d (st.aT d)))) (cI Tryz.prog call ops ⟨some d,.buildSlice 262 1 #[(0,x)],T,pos,eU,none⟩ st):=KA SL ze4 d x
theorem aTs:bI Tryz.f15=true:=by kernel_rfl
theorem aTr:bI Tryz.f17=true:=by kernel_rfl
theorem aTj:bI Tryz.f19=true:=by kernel_rfl
theorem aTk:bI Tryz.f20=true:=by kernel_rfl
theorem aSz:bI Tryz.f24=true:=by kernel_rfl
theorem aR0:sX Tryz.f25=true:=by kernel_rfl
theorem aSo:sX Tryz.f27=true:=by kernel_rfl
theorem aPI:bI Tryz.f30=true:=by kernel_rfl
theorem aRV:bI Tryz.f32=true:=by kernel_rfl
theorem aP4:bI Tryz.f34=true:=by kernel_rfl
theorem aRU:bI Tryz.f36=true:=by kernel_rfl
theorem aRZ:bI Tryz.f37=true:=by kernel_rfl
theorem aQJ:bI Tryz.f39=true:=by kernel_rfl
theorem aQG:bI Tryz.f40=true:=by kernel_rfl
theorem aNz:sX Tryz.f42=true:=by kernel_rfl
theorem aQV:bI Tryz.f44=true:=by kernel_rfl
theorem aRH:bI Tryz.f45=true:=by kernel_rfl
theorem aV9:bI Tryz.f46=true:=by kernel_rfl
theorem aPH:bI Tryz.f47=true:=by kernel_rfl
theorem aKp:bI Tryz.f49=true:=by kernel_rfl
theorem aR1:sX Tryz.f50=true:=by kernel_rfl
theorem aQM:bI Tryz.f52=true:=by kernel_rfl
theorem aQI:bI Tryz.f54=true:=by kernel_rfl
theorem aTn:sX Tryz.f56=true:=by kernel_rfl
theorem aTp:bI Tryz.f57=true:=by kernel_rfl
theorem aS9:sX Tryz.f58=true:=by kernel_rfl
theorem aQO:sX Tryz.f59=true:=by kernel_rfl
theorem aTf:sX Tryz.f60=true:=by kernel_rfl
theorem aQP:sX Tryz.f61=true:=by kernel_rfl
theorem aTi:bI Tryz.f62=true:=by kernel_rfl
theorem aQi:bI Tryz.f64=true:=by kernel_rfl
theorem aQB:bI Tryz.f65=true:=by kernel_rfl
theorem aS7:bI Tryz.f66=true:=by kernel_rfl
theorem aQN:bI Tryz.f67=true:=by kernel_rfl
theorem aSC:bI Tryz.f68=true:=by kernel_rfl
theorem aQK:bI Tryz.f69=true:=by kernel_rfl
theorem aSe:bI Tryz.f72=true:=by kernel_rfl
theorem aSd:sX Tryz.f74=true:=by kernel_rfl
theorem aSy:sX Tryz.f75=true:=by kernel_rfl
theorem aKr:bI Tryz.f76=true:=by kernel_rfl
theorem aRR:bI Tryz.f85=true:=by kernel_rfl
theorem aRS:bI Tryz.f86=true:=by kernel_rfl
theorem aWa:bI Tryz.f87=true:=by kernel_rfl
theorem aQc:bI Tryz.f89=true:=by kernel_rfl
theorem aRT:bI Tryz.f91=true:=by kernel_rfl
theorem aRK:bI Tryz.f92=true:=by kernel_rfl
theorem aQ1:bI Tryz.f94=true:=by kernel_rfl
theorem aLJ:bI Tryz.f95=true:=by kernel_rfl
theorem aPX:bI Tryz.f96=true:=by kernel_rfl
theorem aQu:bI Tryz.f97=true:=by kernel_rfl
theorem aQv:bI Tryz.f98=true:=by kernel_rfl
theorem aQx:bI Tryz.f99=true:=by kernel_rfl
theorem aKC:bI Tryz.f100=true:=by kernel_rfl
theorem aFS:bI Tryz.f101=true:=by kernel_rfl
theorem aMk:bI Tryz.f102=true:=by kernel_rfl
theorem aFE:bI Tryz.f103=true:=by kernel_rfl
theorem aNu:bI Tryz.f104=true:=by kernel_rfl
theorem aFD:bI Tryz.f105=true:=by kernel_rfl
theorem aKG:bI Tryz.f106=true:=by kernel_rfl
theorem aF1:bI Tryz.f107=true:=by kernel_rfl
theorem aFF:bI Tryz.f108=true:=by kernel_rfl
theorem aNp:bI Tryz.f109=true:=by kernel_rfl
theorem aLB:bI Tryz.f110=true:=by kernel_rfl
theorem aMO:bI Tryz.f111=true:=by kernel_rfl
theorem aLk:bI Tryz.f114=true:=by kernel_rfl
theorem aLy:bI Tryz.f117=true:=by kernel_rfl
theorem aNI:bI Tryz.f118=true:=by kernel_rfl
theorem aNH:bI Tryz.f119=true:=by kernel_rfl
theorem aNC:bI Tryz.f120=true:=by kernel_rfl
theorem aKE:bI Tryz.f121=true:=by kernel_rfl
theorem aK9:bI Tryz.f122=true:=by kernel_rfl
theorem aNE:bI Tryz.f124=true:=by kernel_rfl
theorem aKI:bI Tryz.f125=true:=by kernel_rfl
theorem aNG:bI Tryz.f127=true:=by kernel_rfl
theorem aLb:bI Tryz.f128=true:=by kernel_rfl
theorem aFp:bI Tryz.f130=true:=by kernel_rfl
theorem aLo:bI Tryz.f131=true:=by kernel_rfl
theorem aNa:bI Tryz.f135=true:=by kernel_rfl
theorem aNc:bI Tryz.f136=true:=by kernel_rfl
theorem aK7:bI Tryz.f137=true:=by kernel_rfl
theorem aMS:bI Tryz.f143=true:=by kernel_rfl
theorem aM9:bI Tryz.f144=true:=by kernel_rfl
theorem Q3:bI Tryz.f145=true:=by kernel_rfl
theorem aMZ:bI Tryz.f146=true:=by kernel_rfl
theorem aM6:bI Tryz.f147=true:=by kernel_rfl
theorem aKu:bI Tryz.f149=true:=by kernel_rfl
theorem aKM:bI Tryz.f150=true:=by kernel_rfl
theorem aKK:bI Tryz.f151=true:=by kernel_rfl
theorem aLH:bI Tryz.f152=true:=by kernel_rfl
theorem aLI:bI Tryz.f153=true:=by kernel_rfl
theorem aKB:bI Tryz.f154=true:=by kernel_rfl
theorem aKy:bI Tryz.f155=true:=by kernel_rfl
theorem aKz:bI Tryz.f156=true:=by kernel_rfl
theorem aKt:bI Tryz.f157=true:=by kernel_rfl
theorem aLt:bI Tryz.f158=true:=by kernel_rfl
theorem aFG:bI Tryz.f159=true:=by kernel_rfl
theorem aFX:bI Tryz.f160=true:=by kernel_rfl
theorem aNo:bI Tryz.f161=true:=by kernel_rfl
theorem aNl:bI Tryz.f162=true:=by kernel_rfl
theorem aNi:bI Tryz.f163=true:=by kernel_rfl
theorem aF0:bI Tryz.f164=true:=by kernel_rfl
theorem aKU:bI Tryz.f165=true:=by kernel_rfl
theorem aNn:bI Tryz.f166=true:=by kernel_rfl
theorem aLj:bI Tryz.f169=true:=by kernel_rfl
theorem aLh:bI Tryz.f170=true:=by kernel_rfl
theorem aNB:bI Tryz.f171=true:=by kernel_rfl
theorem aLw:bI Tryz.f172=true:=by kernel_rfl
theorem aNA:bI Tryz.f173=true:=by kernel_rfl
theorem aFn:bI Tryz.f175=true:=by kernel_rfl
theorem aLe:bI Tryz.f176=true:=by kernel_rfl
theorem aMg:sX Tryz.f181=true:=by kernel_rfl
theorem aMQ:bI Tryz.f182=true:=by kernel_rfl
theorem aMR:bI Tryz.f183=true:=by kernel_rfl
theorem aMM:sX Tryz.f184=true:=by kernel_rfl
theorem aM5:bI Tryz.f185=true:=by kernel_rfl
theorem aOZ:bI Tryz.f186=true:=by kernel_rfl
theorem aKv:bI Tryz.f188=true:=by kernel_rfl
theorem aKx:bI Tryz.f189=true:=by kernel_rfl
theorem aFY:bI Tryz.f190=true:=by kernel_rfl
theorem aFZ:bI Tryz.f191=true:=by kernel_rfl
theorem aKT:bI Tryz.f192=true:=by kernel_rfl
theorem aNm:bI Tryz.f193=true:=by kernel_rfl
theorem aNj:bI Tryz.f194=true:=by kernel_rfl
theorem aLv:sX Tryz.f195=true:=by kernel_rfl
theorem aKA:bI Tryz.f196=true:=by kernel_rfl
theorem aMe:bI Tryz.f199=true:=by kernel_rfl
theorem aML:bI Tryz.f200=true:=by kernel_rfl
theorem aMv:bI Tryz.f201=true:=by kernel_rfl
theorem aMX:sX Tryz.f202=true:=by kernel_rfl
theorem aM4:bI Tryz.f203=true:=by kernel_rfl
theorem aL9:bI Tryz.f204=true:=by kernel_rfl
theorem aL8:bI Tryz.f205=true:=by kernel_rfl
theorem aFU:bI Tryz.f206=true:=by kernel_rfl
theorem aMd:bI Tryz.f208=true:=by kernel_rfl
theorem aLN:bI Tryz.f209=true:=by kernel_rfl
theorem aMF:sX Tryz.f210=true:=by kernel_rfl
theorem aMH:sX Tryz.f211=true:=by kernel_rfl
theorem aMI:bI Tryz.f212=true:=by kernel_rfl
theorem aMJ:sX Tryz.f213=true:=by kernel_rfl
theorem aMK:sX Tryz.f214=true:=by kernel_rfl
theorem aFC:bI Tryz.f215=true:=by kernel_rfl
theorem aMu:bI Tryz.f216=true:=by kernel_rfl
theorem aLE:bI Tryz.f217=true:=by kernel_rfl
theorem aLA:bI Tryz.f218=true:=by kernel_rfl
theorem aL7:bI Tryz.f219=true:=by kernel_rfl
theorem aL6:bI Tryz.f220=true:=by kernel_rfl
theorem aL4:bI Tryz.f221=true:=by kernel_rfl
theorem aK4:bI Tryz.f222=true:=by kernel_rfl
theorem aLW:bI Tryz.f223=true:=by kernel_rfl
theorem aL1:bI Tryz.f224=true:=by kernel_rfl
theorem aMb:bI Tryz.f225=true:=by kernel_rfl
theorem aMo:bI Tryz.f226=true:=by kernel_rfl
theorem aMC:bI Tryz.f227=true:=by kernel_rfl
theorem aMp:sX Tryz.f228=true:=by kernel_rfl
theorem aMD:bI Tryz.f229=true:=by kernel_rfl
theorem aME:bI Tryz.f230=true:=by kernel_rfl
theorem aFI:sX Tryz.f231=true:=by kernel_rfl
theorem aMt:bI Tryz.f232=true:=by kernel_rfl
theorem aLl:bI Tryz.f233=true:=by kernel_rfl
theorem aLM:bI Tryz.f234=true:=by kernel_rfl
theorem aLP:sX Tryz.f235=true:=by kernel_rfl
theorem aKZ:bI Tryz.f236=true:=by kernel_rfl
theorem aK3:bI Tryz.f237=true:=by kernel_rfl
theorem aK0:bI Tryz.f238=true:=by kernel_rfl
theorem aLL:bI Tryz.f239=true:=by kernel_rfl
theorem aLO:bI Tryz.f240=true:=by kernel_rfl
theorem aLU:bI Tryz.f241=true:=by kernel_rfl
theorem aLV:bI Tryz.f242=true:=by kernel_rfl
theorem aLR:bI Tryz.f243=true:=by kernel_rfl
theorem aFw:bI Tryz.f244=true:=by kernel_rfl
theorem aKP:bI Tryz.f245=true:=by kernel_rfl
theorem aMA:bI Tryz.f246=true:=by kernel_rfl
theorem aKY:bI Tryz.f247=true:=by kernel_rfl
theorem aLQ:bI Tryz.f248=true:=by kernel_rfl
theorem aLZ:bI Tryz.f249=true:=by kernel_rfl
theorem aLK:bI Tryz.f250=true:=by kernel_rfl
theorem aK6:bI Tryz.f251=true:=by kernel_rfl
theorem aLX:bI Tryz.f252=true:=by kernel_rfl
end Go.Ab.Tryz
