/-
  Part 8 of the proof: an evaluator of programs, its soundness, and what functions of this program compute.
-/
import Derived.Test.YtmcjkemalibacaaGreatK7
import Derived.Test.YtmcjkemalibacaaGreatProg
import Derived.KernelRfl
set_option linter.all false
set_option maxRecDepth 20000
set_option maxHeartbeats 40000000
namespace Go.Ab.Tryz
open Classical Go.Proofs Go.Ab
theorem mixed:Tryz.prog.follows .mixedOrders=true:=by kernel_rfl
theorem ld3 (cs:List AV) (o:Nat):fG Tryz.prog 3 cs o=cs[o]?:=by
 have:fO Tryz.prog 3=some (false,1):=by kernel_rfl
 simp only[fG,this]
theorem ik3:intKind Tryz.prog 3=some .i64:=by kernel_rfl
theorem lk3:tR Tryz.prog 3=some 1:=by kernel_rfl
theorem ze3:dX Tryz.prog 3=some [.int .i64 0]:=by kernel_rfl
theorem aTL (cs:List AV) (o:Nat):fG Tryz.prog 23 cs o=cs[o]?:=by
 have:fO Tryz.prog 23=some (false,1):=by kernel_rfl
 simp only[fG,this]
theorem aTM:intKind Tryz.prog 23=some .u64:=by kernel_rfl
theorem MQ:tR Tryz.prog 23=some 1:=by kernel_rfl
theorem aIq:dX Tryz.prog 23=some [.int .u64 0]:=by kernel_rfl
theorem aTN:intKind Tryz.prog 61=some .u64:=by kernel_rfl
theorem aTO:tR Tryz.prog 61=some 1:=by kernel_rfl
theorem aTP:dX Tryz.prog 61=some [.int .u64 0]:=by kernel_rfl
theorem ld5 (cs:List AV) (o:Nat):fG Tryz.prog 5 cs o=cs[o]?:=by
 have:fO Tryz.prog 5=some (false,1):=by kernel_rfl
 simp only[fG,this]
theorem ik5:intKind Tryz.prog 5=some .u8:=by kernel_rfl
theorem lk5:tR Tryz.prog 5=some 1:=by kernel_rfl
theorem ze5:dX Tryz.prog 5=some [.int .u8 0]:=by kernel_rfl
theorem ik2:intKind Tryz.prog 2=some .i64:=by kernel_rfl
theorem lk2:tR Tryz.prog 2=some 1:=by kernel_rfl
theorem ze2:dX Tryz.prog 2=some [.int .i64 0]:=by kernel_rfl
theorem aTQ:intKind Tryz.prog 64=some .i64:=by kernel_rfl
theorem aTR:tR Tryz.prog 64=some 1:=by kernel_rfl
theorem aTS:dX Tryz.prog 64=some [.int .i64 0]:=by kernel_rfl
theorem ld4 (cs:List AV) (o:Nat):fG Tryz.prog 4 cs o=cs[o]?:=by
 have:fO Tryz.prog 4=some (false,1):=by kernel_rfl
 simp only[fG,this]
theorem lk4:tR Tryz.prog 4=some 1:=by kernel_rfl
theorem ze4:dX Tryz.prog 4=some [.bool false]:=by kernel_rfl
theorem be4 (a b:Bool):fS Tryz.prog .eql 4 (.v (.bool a)) (.v (.bool b))=some (.v (.bool (a == b))):=by
 have:Tryz.prog.underlying 4=some .bool:=by kernel_rfl
 simp only[fS,this]
theorem aTT (cs:List AV) (o:Nat) (h:32≤cs.length-o):fG Tryz.prog 27 cs o=some (.agg (rd cs o 32)):=by
 have:fO Tryz.prog 27=some (true,32):=by kernel_rfl
 simp[fG,this,h]
theorem aLD:tR Tryz.prog 27=some 32:=by kernel_rfl
theorem aOc:dX Tryz.prog 27=some tU:=by kernel_rfl
theorem aIr (a b:cK):tN Tryz.prog 27 (aX a) (aX b)=some (decide (a=b)):=rO (l:=Fq) (by kernel_rfl) (by kernel_rfl) (by kernel_rfl) (mO a b) (oP a b)
theorem aTU (a b:cK):fS Tryz.prog .eql 27 (.agg (aX a)) (.agg (aX b))=some (.v (.bool (decide (a=b)))):=by simp only[fS,aIr,Option.map_some]
theorem aTV (a b:cK):fS Tryz.prog .neq 27 (.agg (aX a)) (.agg (aX b))=some (.v (.bool (!(decide (a=b))))):=by simp only[fS,aIr,Option.map_some]
theorem aGW:jJ Tryz.prog 27=some (32,1):=by kernel_rfl
theorem aTW (st:St) (parts:List (Nat × Operand)):iV Tryz.prog st 27 parts=if (parts.all fun p=>(st.ev p.2).jR)=true then (gN (fun i=>some (i * 1,1)) (aX dO) (parts.map fun p=>(p.1,st.ev p.2))).map .agg else none:=iE (z:=tU) (by kernel_rfl) jN (Tp (by kernel_rfl))
theorem aTX (cs:List AV) (o:Nat) (h:4≤cs.length-o):fG Tryz.prog 33 cs o=some (.agg (rd cs o 4)):=by
 have:fO Tryz.prog 33=some (true,4):=by kernel_rfl
 simp[fG,this,h]
theorem aTY:tR Tryz.prog 33=some 4:=by kernel_rfl
theorem aTZ:dX Tryz.prog 33=some Zo:=by kernel_rfl
theorem aOd (a b:rT):tN Tryz.prog 33 (gE a) (gE b)=some (decide (a=b)):=rO (l:=p7) (by kernel_rfl) (by kernel_rfl) (by kernel_rfl) (Lx a b) (Rr a b)
theorem aT0 (a b:rT):fS Tryz.prog .neq 33 (.agg (gE a)) (.agg (gE b))=some (.v (.bool (!(decide (a=b))))):=by simp only[fS,aOd,Option.map_some]
theorem aLm:jJ Tryz.prog 33=some (4,1):=by kernel_rfl
theorem aT1 (st:St) (parts:List (Nat × Operand)):iV Tryz.prog st 33 parts=if (parts.all fun p=>(st.ev p.2).jR)=true then (gN (fun i=>some (i * 1,1)) (gE FX) (parts.map fun p=>(p.1,st.ev p.2))).map .agg else none:=iE (z:=Zo) (by kernel_rfl) jO (Tp (by kernel_rfl))
theorem aT2 (cs:List AV) (o:Nat) (h:33≤cs.length-o):fG Tryz.prog 41 cs o=some (.agg (rd cs o 33)):=by
 have:fO Tryz.prog 41=some (true,33):=by kernel_rfl
 simp[fG,this,h]
theorem aT3:tR Tryz.prog 41=some 33:=by kernel_rfl
theorem aIs:aU Tryz.prog 41 0=some 0:=by kernel_rfl
theorem aIt:aU Tryz.prog 41 1=some 1:=by kernel_rfl
theorem aLC:dX Tryz.prog 41=some Ct:=by kernel_rfl
theorem aIu (a b:fV):tN Tryz.prog 41 (bZ a) (bZ b)=some (decide (a=b)):=rO (l:=Tr) (by kernel_rfl) (by kernel_rfl) (by kernel_rfl) (tL a b) (mY a b)
theorem aT4 (a b:fV):fS Tryz.prog .eql 41 (.agg (bZ a)) (.agg (bZ b))=some (.v (.bool (decide (a=b)))):=by simp only[fS,aIu,Option.map_some]
theorem aT5 (a b:fV):fS Tryz.prog .neq 41 (.agg (bZ a)) (.agg (bZ b))=some (.v (.bool (!(decide (a=b))))):=by simp only[fS,aIu,Option.map_some]
theorem aT6 (st:St) (parts:List (Nat × Operand)):iV Tryz.prog st 41 parts=if (parts.all fun p=>(st.ev p.2).jR)=true then (gN (fun i=>([(0,1),(1,32)]:List (Nat × Nat))[i]?) (bZ gZ) (parts.map fun p=>(p.1,st.ev p.2))).map .agg else none:=iE (z:=Ct) (by kernel_rfl) Bb (eZ (by kernel_rfl))
theorem aT7 (cs:List AV) (o:Nat) (h:66≤cs.length-o):fG Tryz.prog 72 cs o=some (.agg (rd cs o 66)):=by
 have:fO Tryz.prog 72=some (true,66):=by kernel_rfl
 simp[fG,this,h]
theorem aT8:tR Tryz.prog 72=some 66:=by kernel_rfl
theorem aIv:aU Tryz.prog 72 0=some 0:=by kernel_rfl
theorem aIw:aU Tryz.prog 72 1=some 33:=by kernel_rfl
theorem aT9:dX Tryz.prog 72=some Pa:=by kernel_rfl
theorem aUa (st:St) (parts:List (Nat × Operand)):iV Tryz.prog st 72 parts=if (parts.all fun p=>(st.ev p.2).jR)=true then (gN (fun i=>([(0,33),(33,33)]:List (Nat × Nat))[i]?) (fK Np) (parts.map fun p=>(p.1,st.ev p.2))).map .agg else none:=iE (z:=Pa) (by kernel_rfl) Rs (eZ (by kernel_rfl))
theorem aUb (cs:List AV) (o:Nat) (h:238≤cs.length-o):fG Tryz.prog 74 cs o=some (.agg (rd cs o 238)):=by
 have:fO Tryz.prog 74=some (true,238):=by kernel_rfl
 simp[fG,this,h]
theorem UY:tR Tryz.prog 74=some 238:=by kernel_rfl
theorem aIx:aU Tryz.prog 74 0=some 0:=by kernel_rfl
theorem aIy:aU Tryz.prog 74 1=some 66:=by kernel_rfl
theorem aIz:aU Tryz.prog 74 2=some 67:=by kernel_rfl
theorem aIA:aU Tryz.prog 74 3=some 99:=by kernel_rfl
theorem aIB:aU Tryz.prog 74 4=some 131:=by kernel_rfl
theorem aIC:aU Tryz.prog 74 5=some 163:=by kernel_rfl
theorem aID:aU Tryz.prog 74 6=some 167:=by kernel_rfl
theorem aIE:aU Tryz.prog 74 7=some 171:=by kernel_rfl
theorem aIF:aU Tryz.prog 74 8=some 204:=by kernel_rfl
theorem aIG:aU Tryz.prog 74 9=some 237:=by kernel_rfl
theorem aIH:dX Tryz.prog 74=some Rv:=by kernel_rfl
theorem aII (a b:Block):tN Tryz.prog 74 (aT a) (aT b)=some (decide (a=b)):=rO (l:=XA) (by kernel_rfl) (by kernel_rfl) (by kernel_rfl) (Ts a b) (Zr a b)
theorem aUc (a b:Block):fS Tryz.prog .eql 74 (.agg (aT a)) (.agg (aT b))=some (.v (.bool (decide (a=b)))):=by simp only[fS,aII,Option.map_some]
theorem aUd (a b:Block):fS Tryz.prog .neq 74 (.agg (aT a)) (.agg (aT b))=some (.v (.bool (!(decide (a=b))))):=by simp only[fS,aII,Option.map_some]
theorem aUe (st:St) (parts:List (Nat × Operand)):iV Tryz.prog st 74 parts=if (parts.all fun p=>(st.ev p.2).jR)=true then (gN (fun i=>([(0,66),(66,1),(67,32),(99,32),(131,32),(163,4),(167,4),(171,33),(204,33),(237,1)]:List (Nat × Nat))[i]?) (aT fP) (parts.map fun p=>(p.1,st.ev p.2))).map .agg else none:=iE (z:=Rv) (by kernel_rfl) Pd (eZ (by kernel_rfl))
theorem aUf (cs:List AV) (o:Nat) (h:240≤cs.length-o):fG Tryz.prog 76 cs o=some (.agg (rd cs o 240)):=by
 have:fO Tryz.prog 76=some (true,240):=by kernel_rfl
 simp[fG,this,h]
theorem aUg:tR Tryz.prog 76=some 240:=by kernel_rfl
theorem aIJ:aU Tryz.prog 76 0=some 0:=by kernel_rfl
theorem aIK:aU Tryz.prog 76 1=some 238:=by kernel_rfl
theorem aIL:aU Tryz.prog 76 2=some 239:=by kernel_rfl
theorem aIM:dX Tryz.prog 76=some Zs:=by kernel_rfl
theorem aOe (a b:Node):tN Tryz.prog 76 (fD a) (fD b)=some (decide (a=b)):=rO (l:=aGr) (by kernel_rfl) (by kernel_rfl) (by kernel_rfl) (Wo a b) (J1 a b)
theorem aUh (a b:Node):fS Tryz.prog .neq 76 (.agg (fD a)) (.agg (fD b))=some (.v (.bool (!(decide (a=b))))):=by simp only[fS,aOe,Option.map_some]
theorem aUi (st:St) (parts:List (Nat × Operand)):iV Tryz.prog st 76 parts=if (parts.all fun p=>(st.ev p.2).jR)=true then (gN (fun i=>([(0,238),(238,1),(239,1)]:List (Nat × Nat))[i]?) (fD r7) (parts.map fun p=>(p.1,st.ev p.2))).map .agg else none:=iE (z:=Zs) (by kernel_rfl) JJ (eZ (by kernel_rfl))
theorem aUj (cs:List AV) (o:Nat) (h:1≤cs.length-o):fG Tryz.prog 50 cs o=some (.agg (rd cs o 1)):=by
 have:fO Tryz.prog 50=some (true,1):=by kernel_rfl
 simp[fG,this,h]
theorem aUk:tR Tryz.prog 50=some 1:=by kernel_rfl
theorem aIN:aU Tryz.prog 50 0=some 0:=by kernel_rfl
theorem aUl:dX Tryz.prog 50=some [.slice none 0 0]:=by kernel_rfl
theorem aUm (st:St) (parts:List (Nat × Operand)):iV Tryz.prog st 50 parts=if (parts.all fun p=>(st.ev p.2).jR)=true then (gN (fun i=>([(0,1)]:List (Nat × Nat))[i]?) [.v (.slice none 0 0)] (parts.map fun p=>(p.1,st.ev p.2))).map .agg else none:=iE (z:=[.slice none 0 0]) (by kernel_rfl) rfl (eZ (by kernel_rfl))
theorem aUn:tR Tryz.prog 25=some 1:=by kernel_rfl
theorem aIO:aU Tryz.prog 25 0=some 0:=by kernel_rfl
theorem aUo:dX Tryz.prog 25=some Jh:=by kernel_rfl
theorem aUp (st:St) (parts:List (Nat × Operand)):iV Tryz.prog st 25 parts=if (parts.all fun p=>(st.ev p.2).jR)=true then (gN (fun i=>([(0,1)]:List (Nat × Nat))[i]?) (lN Vu) (parts.map fun p=>(p.1,st.ev p.2))).map .agg else none:=iE (z:=Jh) (by kernel_rfl) Ji (eZ (by kernel_rfl))
theorem aUq (cs:List AV) (o:Nat) (h:34≤cs.length-o):fG Tryz.prog 29 cs o=some (.agg (rd cs o 34)):=by
 have:fO Tryz.prog 29=some (true,34):=by kernel_rfl
 simp[fG,this,h]
theorem aUr:tR Tryz.prog 29=some 34:=by kernel_rfl
theorem aIP:aU Tryz.prog 29 0=some 0:=by kernel_rfl
theorem aIQ:aU Tryz.prog 29 1=some 1:=by kernel_rfl
theorem aIR:aU Tryz.prog 29 2=some 2:=by kernel_rfl
theorem aUs:dX Tryz.prog 29=some Dd:=by kernel_rfl
theorem aOf (a b:gQ):tN Tryz.prog 29 (dG a) (dG b)=some (decide (a=b)):=rO (l:=RE) (by kernel_rfl) (by kernel_rfl) (by kernel_rfl) (CY a b) (JP a b)
theorem aUt (a b:gQ):fS Tryz.prog .eql 29 (.agg (dG a)) (.agg (dG b))=some (.v (.bool (decide (a=b)))):=by simp only[fS,aOf,Option.map_some]
theorem aUu (st:St) (parts:List (Nat × Operand)):iV Tryz.prog st 29 parts=if (parts.all fun p=>(st.ev p.2).jR)=true then (gN (fun i=>([(0,1),(1,1),(2,32)]:List (Nat × Nat))[i]?) (dG Zu) (parts.map fun p=>(p.1,st.ev p.2))).map .agg else none:=iE (z:=Dd) (by kernel_rfl) Mc (eZ (by kernel_rfl))
theorem aUv (cs:List AV) (o:Nat) (h:6≤cs.length-o):fG Tryz.prog 31 cs o=some (.agg (rd cs o 6)):=by
 have:fO Tryz.prog 31=some (true,6):=by kernel_rfl
 simp[fG,this,h]
theorem aUw:tR Tryz.prog 31=some 6:=by kernel_rfl
theorem aIS:aU Tryz.prog 31 0=some 0:=by kernel_rfl
theorem aIT:aU Tryz.prog 31 1=some 1:=by kernel_rfl
theorem aIU:aU Tryz.prog 31 2=some 2:=by kernel_rfl
theorem aIV:aU Tryz.prog 31 3=some 3:=by kernel_rfl
theorem aIW:aU Tryz.prog 31 4=some 4:=by kernel_rfl
theorem aIX:aU Tryz.prog 31 5=some 5:=by kernel_rfl
theorem aUx:dX Tryz.prog 31=some Pn:=by kernel_rfl
theorem aOg (a b:lZ):tN Tryz.prog 31 (fN a) (fN b)=some (decide (a=b)):=rO (l:=u6) (by kernel_rfl) (by kernel_rfl) (by kernel_rfl) (JR a b) (RF a b)
theorem aUy (a b:lZ):fS Tryz.prog .neq 31 (.agg (fN a)) (.agg (fN b))=some (.v (.bool (!(decide (a=b))))):=by simp only[fS,aOg,Option.map_some]
theorem aUz (st:St) (parts:List (Nat × Operand)):iV Tryz.prog st 31 parts=if (parts.all fun p=>(st.ev p.2).jR)=true then (gN (fun i=>([(0,1),(1,1),(2,1),(3,1),(4,1),(5,1)]:List (Nat × Nat))[i]?) (fN JQ) (parts.map fun p=>(p.1,st.ev p.2))).map .agg else none:=iE (z:=Pn) (by kernel_rfl) Sc (eZ (by kernel_rfl))
theorem aUA (cs:List AV) (o:Nat) (h:45≤cs.length-o):fG Tryz.prog 36 cs o=some (.agg (rd cs o 45)):=by
 have:fO Tryz.prog 36=some (true,45):=by kernel_rfl
 simp[fG,this,h]
theorem aUB:tR Tryz.prog 36=some 45:=by kernel_rfl
theorem aIY:aU Tryz.prog 36 0=some 0:=by kernel_rfl
theorem aIZ:aU Tryz.prog 36 1=some 6:=by kernel_rfl
theorem aI0:aU Tryz.prog 36 2=some 7:=by kernel_rfl
theorem aI1:aU Tryz.prog 36 3=some 8:=by kernel_rfl
theorem aI2:aU Tryz.prog 36 4=some 12:=by kernel_rfl
theorem aI3:aU Tryz.prog 36 5=some 44:=by kernel_rfl
theorem aUC:dX Tryz.prog 36=some Ps:=by kernel_rfl
theorem aUD (st:St) (parts:List (Nat × Operand)):iV Tryz.prog st 36 parts=if (parts.all fun p=>(st.ev p.2).jR)=true then (gN (fun i=>([(0,6),(6,1),(7,1),(8,4),(12,32),(44,1)]:List (Nat × Nat))[i]?) (bV nY) (parts.map fun p=>(p.1,st.ev p.2))).map .agg else none:=iE (z:=Ps) (by kernel_rfl) Se (eZ (by kernel_rfl))
theorem aOh (cs:List AV) (o:Nat) (h:34≤cs.length-o):fG Tryz.prog 100 cs o=some (.agg (rd cs o 34)):=by
 have:fO Tryz.prog 100=some (true,34):=by kernel_rfl
 simp[fG,this,h]
theorem aFJ:tR Tryz.prog 100=some 34:=by kernel_rfl
theorem aEC:aU Tryz.prog 100 0=some 0:=by kernel_rfl
theorem aED:aU Tryz.prog 100 1=some 1:=by kernel_rfl
theorem aEE:aU Tryz.prog 100 2=some 2:=by kernel_rfl
theorem aGv:dX Tryz.prog 100=some u7:=by kernel_rfl
theorem aGw (a b:kS):tN Tryz.prog 100 (jQ a) (jQ b)=some (decide (a=b)):=rO (l:=aGt) (by kernel_rfl) (by kernel_rfl) (by kernel_rfl) (XN a b) (J9 a b)
theorem aOi (a b:kS):fS Tryz.prog .neq 100 (.agg (jQ a)) (.agg (jQ b))=some (.v (.bool (!(decide (a=b))))):=by simp only[fS,aGw,Option.map_some]
theorem aOj (st:St) (parts:List (Nat × Operand)):iV Tryz.prog st 100 parts=if (parts.all fun p=>(st.ev p.2).jR)=true then (gN (fun i=>([(0,1),(1,1),(2,32)]:List (Nat × Nat))[i]?) (jQ tT) (parts.map fun p=>(p.1,st.ev p.2))).map .agg else none:=iE (z:=u7) (by kernel_rfl) u9 (eZ (by kernel_rfl))
theorem aUE (cs:List AV) (o:Nat) (h:67≤cs.length-o):fG Tryz.prog 87 cs o=some (.agg (rd cs o 67)):=by
 have:fO Tryz.prog 87=some (true,67):=by kernel_rfl
 simp[fG,this,h]
theorem aUF:tR Tryz.prog 87=some 67:=by kernel_rfl
theorem aI4:aU Tryz.prog 87 0=some 0:=by kernel_rfl
theorem aI5:aU Tryz.prog 87 1=some 1:=by kernel_rfl
theorem aI6:aU Tryz.prog 87 2=some 33:=by kernel_rfl
theorem aI7:aU Tryz.prog 87 3=some 66:=by kernel_rfl
theorem aOk:dX Tryz.prog 87=some aBI:=by kernel_rfl
theorem aUG (st:St) (parts:List (Nat × Operand)):iV Tryz.prog st 87 parts=if (parts.all fun p=>(st.ev p.2).jR)=true then (gN (fun i=>([(0,1),(1,32),(33,33),(66,1)]:List (Nat × Nat))[i]?) (hU Jm) (parts.map fun p=>(p.1,st.ev p.2))).map .agg else none:=iE (z:=aBI) (by kernel_rfl) XO (eZ (by kernel_rfl))
theorem aOl (cs:List AV) (o:Nat) (h:35≤cs.length-o):fG Tryz.prog 186 cs o=some (.agg (rd cs o 35)):=by
 have:fO Tryz.prog 186=some (true,35):=by kernel_rfl
 simp[fG,this,h]
theorem aOm:tR Tryz.prog 186=some 35:=by kernel_rfl
theorem aEF:aU Tryz.prog 186 0=some 0:=by kernel_rfl
theorem aEG:aU Tryz.prog 186 1=some 1:=by kernel_rfl
theorem aEH:aU Tryz.prog 186 2=some 2:=by kernel_rfl
theorem aEI:aU Tryz.prog 186 3=some 34:=by kernel_rfl
theorem aOn:dX Tryz.prog 186=some Sf:=by kernel_rfl
theorem aOo (st:St) (parts:List (Nat × Operand)):iV Tryz.prog st 186 parts=if (parts.all fun p=>(st.ev p.2).jR)=true then (gN (fun i=>([(0,1),(1,1),(2,32),(34,1)]:List (Nat × Nat))[i]?) (gO JW) (parts.map fun p=>(p.1,st.ev p.2))).map .agg else none:=iE (z:=Sf) (by kernel_rfl) Zy (eZ (by kernel_rfl))
theorem aOp (cs:List AV) (o:Nat) (h:70≤cs.length-o):fG Tryz.prog 188 cs o=some (.agg (rd cs o 70)):=by
 have:fO Tryz.prog 188=some (true,70):=by kernel_rfl
 simp[fG,this,h]
theorem aOq:tR Tryz.prog 188=some 70:=by kernel_rfl
theorem aEJ:aU Tryz.prog 188 0=some 0:=by kernel_rfl
theorem aEK:aU Tryz.prog 188 1=some 35:=by kernel_rfl
theorem aOr:dX Tryz.prog 188=some Dq:=by kernel_rfl
theorem aOs (st:St) (parts:List (Nat × Operand)):iV Tryz.prog st 188 parts=if (parts.all fun p=>(st.ev p.2).jR)=true then (gN (fun i=>([(0,35),(35,35)]:List (Nat × Nat))[i]?) (cA Sg) (parts.map fun p=>(p.1,st.ev p.2))).map .agg else none:=iE (z:=Dq) (by kernel_rfl) Ie (eZ (by kernel_rfl))
theorem aOt (cs:List AV) (o:Nat) (h:34≤cs.length-o):fG Tryz.prog 118 cs o=some (.agg (rd cs o 34)):=by
 have:fO Tryz.prog 118=some (true,34):=by kernel_rfl
 simp[fG,this,h]
theorem aOu:tR Tryz.prog 118=some 34:=by kernel_rfl
theorem aEL:aU Tryz.prog 118 0=some 0:=by kernel_rfl
theorem aEM:aU Tryz.prog 118 1=some 33:=by kernel_rfl
theorem aGx:dX Tryz.prog 118=some Zz:=by kernel_rfl
theorem aOv (st:St) (parts:List (Nat × Operand)):iV Tryz.prog st 118 parts=if (parts.all fun p=>(st.ev p.2).jR)=true then (gN (fun i=>([(0,33),(33,1)]:List (Nat × Nat))[i]?) (cI iY) (parts.map fun p=>(p.1,st.ev p.2))).map .agg else none:=iE (z:=Zz) (by kernel_rfl) AA (eZ (by kernel_rfl))
theorem aUH (cs:List AV) (o:Nat) (h:35≤cs.length-o):fG Tryz.prog 63 cs o=some (.agg (rd cs o 35)):=by
 have:fO Tryz.prog 63=some (true,35):=by kernel_rfl
 simp[fG,this,h]
theorem aDf:tR Tryz.prog 63=some 35:=by kernel_rfl
theorem aI8:aU Tryz.prog 63 0=some 0:=by kernel_rfl
theorem aI9:aU Tryz.prog 63 1=some 1:=by kernel_rfl
theorem aJa:aU Tryz.prog 63 2=some 33:=by kernel_rfl
theorem aJb:aU Tryz.prog 63 3=some 34:=by kernel_rfl
theorem aDp:dX Tryz.prog 63=some Dc:=by kernel_rfl
theorem aOw (a b:Request):tN Tryz.prog 63 (bU a) (bU b)=some (decide (a=b)):=rO (l:=RQ) (by kernel_rfl) (by kernel_rfl) (by kernel_rfl) (DK a b) (KA a b)
theorem aUI (a b:Request):fS Tryz.prog .neq 63 (.agg (bU a)) (.agg (bU b))=some (.v (.bool (!(decide (a=b))))):=by simp only[fS,aOw,Option.map_some]
theorem aUJ (st:St) (parts:List (Nat × Operand)):iV Tryz.prog st 63 parts=if (parts.all fun p=>(st.ev p.2).jR)=true then (gN (fun i=>([(0,1),(1,32),(33,1),(34,1)]:List (Nat × Nat))[i]?) (bU bK) (parts.map fun p=>(p.1,st.ev p.2))).map .agg else none:=iE (z:=Dc) (by kernel_rfl) AD (eZ (by kernel_rfl))
theorem aUK (cs:List AV) (o:Nat) (h:96≤cs.length-o):fG Tryz.prog 56 cs o=some (.agg (rd cs o 96)):=by
 have:fO Tryz.prog 56=some (true,96):=by kernel_rfl
 simp[fG,this,h]
theorem aUL:tR Tryz.prog 56=some 96:=by kernel_rfl
theorem aJc:aU Tryz.prog 56 0=some 0:=by kernel_rfl
theorem aJd:aU Tryz.prog 56 1=some 32:=by kernel_rfl
theorem aJe:aU Tryz.prog 56 2=some 64:=by kernel_rfl
theorem aOx:dX Tryz.prog 56=some Ig:=by kernel_rfl
theorem aOy (a b:Command):tN Tryz.prog 56 (eD a) (eD b)=some (decide (a=b)):=rO (l:=RR) (by kernel_rfl) (by kernel_rfl) (by kernel_rfl) (DL a b) (KB a b)
theorem aUM (a b:Command):fS Tryz.prog .eql 56 (.agg (eD a)) (.agg (eD b))=some (.v (.bool (decide (a=b)))):=by simp only[fS,aOy,Option.map_some]
theorem aUN (st:St) (parts:List (Nat × Operand)):iV Tryz.prog st 56 parts=if (parts.all fun p=>(st.ev p.2).jR)=true then (gN (fun i=>([(0,32),(32,32),(64,32)]:List (Nat × Nat))[i]?) (eD AH) (parts.map fun p=>(p.1,st.ev p.2))).map .agg else none:=iE (z:=Ig) (by kernel_rfl) Mi (eZ (by kernel_rfl))
theorem aUO (cs:List AV) (o:Nat) (h:2≤cs.length-o):fG Tryz.prog 39 cs o=some (.agg (rd cs o 2)):=by
 have:fO Tryz.prog 39=some (true,2):=by kernel_rfl
 simp[fG,this,h]
theorem aUP:tR Tryz.prog 39=some 2:=by kernel_rfl
theorem aJf:aU Tryz.prog 39 0=some 0:=by kernel_rfl
theorem aJg:aU Tryz.prog 39 1=some 1:=by kernel_rfl
theorem aUQ:dX Tryz.prog 39=some AK:=by kernel_rfl
theorem aUR (st:St) (parts:List (Nat × Operand)):iV Tryz.prog st 39 parts=if (parts.all fun p=>(st.ev p.2).jR)=true then (gN (fun i=>([(0,1),(1,1)]:List (Nat × Nat))[i]?) (fB Lg) (parts.map fun p=>(p.1,st.ev p.2))).map .agg else none:=iE (z:=AK) (by kernel_rfl) AL (eZ (by kernel_rfl))
theorem aUS (cs:List AV) (o:Nat) (h:66≤cs.length-o):fG Tryz.prog 43 cs o=some (.agg (rd cs o 66)):=by
 have:fO Tryz.prog 43=some (true,66):=by kernel_rfl
 simp[fG,this,h]
theorem aUT:tR Tryz.prog 43=some 66:=by kernel_rfl
theorem aJh:aU Tryz.prog 43 0=some 0:=by kernel_rfl
theorem aJi:aU Tryz.prog 43 1=some 33:=by kernel_rfl
theorem aUU:dX Tryz.prog 43=some Dt:=by kernel_rfl
theorem aOz (a b:kP):tN Tryz.prog 43 (eU a) (eU b)=some (decide (a=b)):=rO (l:=FY) (by kernel_rfl) (by kernel_rfl) (by kernel_rfl) (AM a b) (DM a b)
theorem aUV (a b:kP):fS Tryz.prog .neq 43 (.agg (eU a)) (.agg (eU b))=some (.v (.bool (!(decide (a=b))))):=by simp only[fS,aOz,Option.map_some]
theorem aUW (st:St) (parts:List (Nat × Operand)):iV Tryz.prog st 43 parts=if (parts.all fun p=>(st.ev p.2).jR)=true then (gN (fun i=>([(0,33),(33,33)]:List (Nat × Nat))[i]?) (eU Sl) (parts.map fun p=>(p.1,st.ev p.2))).map .agg else none:=iE (z:=Dt) (by kernel_rfl) Ii (eZ (by kernel_rfl))
theorem aUX:tR Tryz.prog 47=some 2:=by kernel_rfl
theorem aJj:aU Tryz.prog 47 0=some 0:=by kernel_rfl
theorem aJk:aU Tryz.prog 47 1=some 1:=by kernel_rfl
theorem aUY:dX Tryz.prog 47=some Vv:=by kernel_rfl
theorem aUZ (cs:List AV) (o:Nat) (h:150≤cs.length-o):fG Tryz.prog 53 cs o=some (.agg (rd cs o 150)):=by
 have:fO Tryz.prog 53=some (true,150):=by kernel_rfl
 simp[fG,this,h]
theorem aU0:tR Tryz.prog 53=some 150:=by kernel_rfl
theorem aJl:aU Tryz.prog 53 0=some 0:=by kernel_rfl
theorem aJm:aU Tryz.prog 53 1=some 45:=by kernel_rfl
theorem aJn:aU Tryz.prog 53 2=some 47:=by kernel_rfl
theorem aJo:aU Tryz.prog 53 3=some 113:=by kernel_rfl
theorem aJp:aU Tryz.prog 53 4=some 115:=by kernel_rfl
theorem aJq:aU Tryz.prog 53 5=some 116:=by kernel_rfl
theorem aJr:aU Tryz.prog 53 6=some 117:=by kernel_rfl
theorem aJs:aU Tryz.prog 53 7=some 149:=by kernel_rfl
theorem aU1:dX Tryz.prog 53=some AP:=by kernel_rfl
theorem aU2 (st:St) (parts:List (Nat × Operand)):iV Tryz.prog st 53 parts=if (parts.all fun p=>(st.ev p.2).jR)=true then (gN (fun i=>([(0,45),(45,2),(47,66),(113,2),(115,1),(116,1),(117,32),(149,1)]:List (Nat × Nat))[i]?) (aB gL) (parts.map fun p=>(p.1,st.ev p.2))).map .agg else none:=iE (z:=AP) (by kernel_rfl) AQ (eZ (by kernel_rfl))
theorem aU3 (cs:List AV) (o:Nat) (h:252≤cs.length-o):fG Tryz.prog 58 cs o=some (.agg (rd cs o 252)):=by
 have:fO Tryz.prog 58=some (true,252):=by kernel_rfl
 simp[fG,this,h]
theorem aU4:tR Tryz.prog 58=some 252:=by kernel_rfl
theorem aJt:aU Tryz.prog 58 0=some 0:=by kernel_rfl
theorem aJu:aU Tryz.prog 58 1=some 150:=by kernel_rfl
theorem aJv:aU Tryz.prog 58 2=some 151:=by kernel_rfl
theorem aJw:aU Tryz.prog 58 3=some 152:=by kernel_rfl
theorem aJx:aU Tryz.prog 58 4=some 153:=by kernel_rfl
theorem aJy:aU Tryz.prog 58 5=some 154:=by kernel_rfl
theorem aJz:aU Tryz.prog 58 6=some 250:=by kernel_rfl
theorem aJA:aU Tryz.prog 58 7=some 251:=by kernel_rfl
theorem aU5:dX Tryz.prog 58=some KG:=by kernel_rfl
theorem aU6 (st:St) (parts:List (Nat × Operand)):iV Tryz.prog st 58 parts=if (parts.all fun p=>(st.ev p.2).jR)=true then (gN (fun i=>([(0,150),(150,1),(151,1),(152,1),(153,1),(154,96),(250,1),(251,1)]:List (Nat × Nat))[i]?) (aE iZ) (parts.map fun p=>(p.1,st.ev p.2))).map .agg else none:=iE (z:=KG) (by kernel_rfl) RT (eZ (by kernel_rfl))
theorem aOA (cs:List AV) (o:Nat) (h:446≤cs.length-o):fG Tryz.prog 190 cs o=some (.agg (rd cs o 446)):=by
 have:fO Tryz.prog 190=some (true,446):=by kernel_rfl
 simp[fG,this,h]
theorem aOB:tR Tryz.prog 190=some 446:=by kernel_rfl
theorem aEN:aU Tryz.prog 190 0=some 0:=by kernel_rfl
theorem aEO:aU Tryz.prog 190 1=some 1:=by kernel_rfl
theorem aEP:aU Tryz.prog 190 2=some 239:=by kernel_rfl
theorem aEQ:aU Tryz.prog 190 3=some 306:=by kernel_rfl
theorem aER:aU Tryz.prog 190 4=some 376:=by kernel_rfl
theorem aES:aU Tryz.prog 190 5=some 410:=by kernel_rfl
theorem aET:aU Tryz.prog 190 6=some 444:=by kernel_rfl
theorem aEU:aU Tryz.prog 190 7=some 445:=by kernel_rfl
theorem aGy:dX Tryz.prog 190=some aEB:=by kernel_rfl
theorem aOC (st:St) (parts:List (Nat × Operand)):iV Tryz.prog st 190 parts=if (parts.all fun p=>(st.ev p.2).jR)=true then (gN (fun i=>([(0,1),(1,238),(239,67),(306,70),(376,34),(410,34),(444,1),(445,1)]:List (Nat × Nat))[i]?) (lC zQ) (parts.map fun p=>(p.1,st.ev p.2))).map .agg else none:=iE (z:=aEB) (by kernel_rfl) aBJ (eZ (by kernel_rfl))
theorem aJB (cs:List AV):Kt Tryz.prog 41 0 (.agg cs)=cs[0]?:=WN (k:=1) (by kernel_rfl)
theorem Kz:dN Tryz.prog 22=some (3,1,8):=by kernel_rfl
theorem aEV:jJ Tryz.prog 22=none:=by kernel_rfl
theorem aU7 (cs:List AV) (o:Nat):fG Tryz.prog 22 cs o=cs[o]?:=by
 have:fO Tryz.prog 22=some (false,1):=by kernel_rfl
 simp only[fG,this]
theorem aU8:tR Tryz.prog 22=some 1:=by kernel_rfl
theorem aU9:dX Tryz.prog 22=some [.slice none 0 0]:=by kernel_rfl
theorem aVa (n:Nat) (cs:List AV) (h:cs≠[]):fS Tryz.prog .eql 22 (.sl n cs) (.v (.slice none 0 0))=some (.v (.bool false)):=by
 have:Tryz.prog.underlying 22=some (.slice 3):=by kernel_rfl
 cases cs with
 | nil=>exact absurd rfl h
 | cons c cs=>simp[fS,tC,this]
theorem aVb:fS Tryz.prog .eql 22 (.v (.slice none 0 0)) (.v (.slice none 0 0))=some (.v (.bool true)):=by
 have:Tryz.prog.underlying 22=some (.slice 3):=by kernel_rfl
 simp[fS,tC,this]
theorem XZ:dN Tryz.prog 34=some (23,1,8):=by kernel_rfl
theorem aJC:jJ Tryz.prog 34=none:=by kernel_rfl
theorem aVc (cs:List AV) (o:Nat):fG Tryz.prog 34 cs o=cs[o]?:=by
 have:fO Tryz.prog 34=some (false,1):=by kernel_rfl
 simp only[fG,this]
theorem aVd:tR Tryz.prog 34=some 1:=by kernel_rfl
theorem aVe:dX Tryz.prog 34=some [.slice none 0 0]:=by kernel_rfl
theorem aVf (n:Nat) (cs:List AV) (h:cs≠[]):fS Tryz.prog .eql 34 (.sl n cs) (.v (.slice none 0 0))=some (.v (.bool false)):=by
 have:Tryz.prog.underlying 34=some (.slice 23):=by kernel_rfl
 cases cs with
 | nil=>exact absurd rfl h
 | cons c cs=>simp[fS,tC,this]
theorem aVg:fS Tryz.prog .eql 34 (.v (.slice none 0 0)) (.v (.slice none 0 0))=some (.v (.bool true)):=by
 have:Tryz.prog.underlying 34=some (.slice 23):=by kernel_rfl
 simp[fS,tC,this]
theorem K3:dN Tryz.prog 37=some (100,34,48):=by kernel_rfl
theorem aJD:jJ Tryz.prog 37=none:=by kernel_rfl
theorem aVh (cs:List AV) (o:Nat):fG Tryz.prog 37 cs o=cs[o]?:=by
 have:fO Tryz.prog 37=some (false,1):=by kernel_rfl
 simp only[fG,this]
theorem aVi:tR Tryz.prog 37=some 1:=by kernel_rfl
theorem aVj:dX Tryz.prog 37=some [.slice none 0 0]:=by kernel_rfl
theorem aVk (n:Nat) (cs:List AV) (h:cs≠[]):fS Tryz.prog .eql 37 (.sl n cs) (.v (.slice none 0 0))=some (.v (.bool false)):=by
 have:Tryz.prog.underlying 37=some (.slice 100):=by kernel_rfl
 cases cs with
 | nil=>exact absurd rfl h
 | cons c cs=>simp[fS,tC,this]
theorem aVl:fS Tryz.prog .eql 37 (.v (.slice none 0 0)) (.v (.slice none 0 0))=some (.v (.bool true)):=by
 have:Tryz.prog.underlying 37=some (.slice 100):=by kernel_rfl
 simp[fS,tC,this]
theorem aBK:dN Tryz.prog 44=some (87,67,104):=by kernel_rfl
theorem aOD:jJ Tryz.prog 44=none:=by kernel_rfl
theorem aVm (cs:List AV) (o:Nat):fG Tryz.prog 44 cs o=cs[o]?:=by
 have:fO Tryz.prog 44=some (false,1):=by kernel_rfl
 simp only[fG,this]
theorem aVn:tR Tryz.prog 44=some 1:=by kernel_rfl
theorem aVo:dX Tryz.prog 44=some [.slice none 0 0]:=by kernel_rfl
theorem oR:dN Tryz.prog 45=some (74,238,336):=by kernel_rfl
theorem aJE:jJ Tryz.prog 45=none:=by kernel_rfl
theorem aVp (cs:List AV) (o:Nat):fG Tryz.prog 45 cs o=cs[o]?:=by
 have:fO Tryz.prog 45=some (false,1):=by kernel_rfl
 simp only[fG,this]
theorem aVq:tR Tryz.prog 45=some 1:=by kernel_rfl
theorem aVr:dX Tryz.prog 45=some [.slice none 0 0]:=by kernel_rfl
theorem aVs (n:Nat) (cs:List AV) (h:cs≠[]):fS Tryz.prog .eql 45 (.sl n cs) (.v (.slice none 0 0))=some (.v (.bool false)):=by
 have:Tryz.prog.underlying 45=some (.slice 74):=by kernel_rfl
 cases cs with
 | nil=>exact absurd rfl h
 | cons c cs=>simp[fS,tC,this]
theorem aVt:fS Tryz.prog .eql 45 (.v (.slice none 0 0)) (.v (.slice none 0 0))=some (.v (.bool true)):=by
 have:Tryz.prog.underlying 45=some (.slice 74):=by kernel_rfl
 simp[fS,tC,this]
theorem RW:dN Tryz.prog 48=some (76,240,352):=by kernel_rfl
theorem aJF:jJ Tryz.prog 48=none:=by kernel_rfl
theorem aVu (cs:List AV) (o:Nat):fG Tryz.prog 48 cs o=cs[o]?:=by
 have:fO Tryz.prog 48=some (false,1):=by kernel_rfl
 simp only[fG,this]
theorem aVv:tR Tryz.prog 48=some 1:=by kernel_rfl
theorem aVw:dX Tryz.prog 48=some [.slice none 0 0]:=by kernel_rfl
theorem aVx (n:Nat) (cs:List AV) (h:cs≠[]):fS Tryz.prog .eql 48 (.sl n cs) (.v (.slice none 0 0))=some (.v (.bool false)):=by
 have:Tryz.prog.underlying 48=some (.slice 76):=by kernel_rfl
 cases cs with
 | nil=>exact absurd rfl h
 | cons c cs=>simp[fS,tC,this]
theorem KS:dN Tryz.prog 51=some (118,34,64):=by kernel_rfl
theorem aOE:jJ Tryz.prog 51=none:=by kernel_rfl
theorem aVy (cs:List AV) (o:Nat):fG Tryz.prog 51 cs o=cs[o]?:=by
 have:fO Tryz.prog 51=some (false,1):=by kernel_rfl
 simp only[fG,this]
theorem aVz:tR Tryz.prog 51=some 1:=by kernel_rfl
theorem aVA:dX Tryz.prog 51=some [.slice none 0 0]:=by kernel_rfl
theorem yE:dN Tryz.prog 54=some (63,35,56):=by kernel_rfl
theorem aDu:jJ Tryz.prog 54=none:=by kernel_rfl
theorem aVB (cs:List AV) (o:Nat):fG Tryz.prog 54 cs o=cs[o]?:=by
 have:fO Tryz.prog 54=some (false,1):=by kernel_rfl
 simp only[fG,this]
theorem aVC:tR Tryz.prog 54=some 1:=by kernel_rfl
theorem aVD:dX Tryz.prog 54=some [.slice none 0 0]:=by kernel_rfl
theorem aVE (n:Nat) (cs:List AV) (h:cs≠[]):fS Tryz.prog .eql 54 (.sl n cs) (.v (.slice none 0 0))=some (.v (.bool false)):=by
 have:Tryz.prog.underlying 54=some (.slice 63):=by kernel_rfl
 cases cs with
 | nil=>exact absurd rfl h
 | cons c cs=>simp[fS,tC,this]
theorem aVF:fS Tryz.prog .eql 54 (.v (.slice none 0 0)) (.v (.slice none 0 0))=some (.v (.bool true)):=by
 have:Tryz.prog.underlying 54=some (.slice 63):=by kernel_rfl
 simp[fS,tC,this]
theorem aEW:dN Tryz.prog 70=some (27,32,32):=by kernel_rfl
theorem aOF:jJ Tryz.prog 70=none:=by kernel_rfl
theorem aVG:tR Tryz.prog 70=some 1:=by kernel_rfl
theorem aVH:dX Tryz.prog 70=some [.slice none 0 0]:=by kernel_rfl
theorem Q3:dN Tryz.prog 109=some (41,33,40):=by kernel_rfl
theorem aGz:jJ Tryz.prog 109=none:=by kernel_rfl
theorem aOG:tR Tryz.prog 109=some 1:=by kernel_rfl
theorem aOH:dX Tryz.prog 109=some [.slice none 0 0]:=by kernel_rfl
theorem v7:dN Tryz.prog 124=some (190,446,720):=by kernel_rfl
theorem aOI:jJ Tryz.prog 124=none:=by kernel_rfl
theorem aOJ:tR Tryz.prog 124=some 1:=by kernel_rfl
theorem aOK:dX Tryz.prog 124=some [.slice none 0 0]:=by kernel_rfl
theorem aGA:dN Tryz.prog 181=some (56,96,96):=by kernel_rfl
theorem aOL:jJ Tryz.prog 181=none:=by kernel_rfl
theorem aOM:tR Tryz.prog 181=some 1:=by kernel_rfl
theorem aON:dX Tryz.prog 181=some [.slice none 0 0]:=by kernel_rfl
theorem v8:dN Tryz.prog 236=some (5,1,1):=by kernel_rfl
theorem aOO:jJ Tryz.prog 236=none:=by kernel_rfl
theorem aOP:tR Tryz.prog 236=some 1:=by kernel_rfl
theorem aOQ:dX Tryz.prog 236=some [.slice none 0 0]:=by kernel_rfl
theorem RX:dN Tryz.prog 262=some (4,1,1):=by kernel_rfl
theorem aGB:jJ Tryz.prog 262=none:=by kernel_rfl
theorem aOR:tR Tryz.prog 262=some 1:=by kernel_rfl
theorem aOS:dX Tryz.prog 262=some [.slice none 0 0]:=by kernel_rfl
theorem aVI {call:Nat→List AV→Option AV} {ops:Array Oper} {st:St} {T:Nat} {pos:String} {eM:Array Edge} (d:Nat):cE Tryz.prog call ops ⟨some d,.buildSlice 22 0 #[],T,pos,eM,none⟩ st=some ((st.new d (.row 3 1 0 [])).put (some d) (.own d (st.aO d))):=Rx Kz ze3 d
theorem aVJ (st:St) (x:AV):dC Tryz.prog st 34 (.v (.slice none 0 0)) x=yF 23 1 8 (aQ st x):=uQ XZ x
theorem aVK (st:St) (s g:Nat) (x:AV):dC Tryz.prog st 34 (.own s g) x=xT 23 1 8 (st.heap s g) s g (aQ st x):=tA XZ s g x
theorem aVL (st:St) (s g:Nat) (kk:IntKind) (i:Int):bD Tryz.prog st 34 (.own s g) (.v (.int kk i))=QG 23 1 (st.heap s g) s g i:=Pf aJC XZ s g kk i
theorem aVM {call:Nat→List AV→Option AV} {ops:Array Oper} {st:St} {T:Nat} {pos:String} {eM:Array Edge} (d:Nat):cE Tryz.prog call ops ⟨some d,.buildSlice 34 0 #[],T,pos,eM,none⟩ st=some ((st.new d (.row 23 1 0 [])).put (some d) (.own d (st.aO d))):=Rx XZ aIq d
theorem aVN {call:Nat→List AV→Option AV} {ops:Array Oper} {st:St} {T:Nat} {pos:String} {eM:Array Edge} (d:Nat) (x:Operand):cE Tryz.prog call ops ⟨some d,.buildSlice 34 1 #[(0,x)],T,pos,eM,none⟩ st=elV (st.ev x) (fun y=>some ((st.new d (.row 23 1 1 [.v y])).put (some d) (.own d (st.aO d)))) (cE Tryz.prog call ops ⟨some d,.buildSlice 34 1 #[(0,x)],T,pos,eM,none⟩ st):=JK XZ aIq d x
theorem aVO (st:St) (x:AV):dC Tryz.prog st 37 (.v (.slice none 0 0)) x=yF 100 34 48 (aQ st x):=uQ K3 x
theorem aVP (st:St) (s g:Nat) (x:AV):dC Tryz.prog st 37 (.own s g) x=xT 100 34 48 (st.heap s g) s g (aQ st x):=tA K3 s g x
theorem aVQ (st:St) (s g:Nat) (kk:IntKind) (i:Int):bD Tryz.prog st 37 (.own s g) (.v (.int kk i))=QG 100 34 (st.heap s g) s g i:=Pf aJD K3 s g kk i
theorem aVR {call:Nat→List AV→Option AV} {ops:Array Oper} {st:St} {T:Nat} {pos:String} {eM:Array Edge} (d:Nat):cE Tryz.prog call ops ⟨some d,.buildSlice 37 0 #[],T,pos,eM,none⟩ st=some ((st.new d (.row 100 34 0 [])).put (some d) (.own d (st.aO d))):=Rx K3 aGv d
theorem aVS (st:St) (x:AV):dC Tryz.prog st 44 (.v (.slice none 0 0)) x=yF 87 67 104 (aQ st x):=uQ aBK x
theorem aVT (st:St) (s g:Nat) (x:AV):dC Tryz.prog st 44 (.own s g) x=xT 87 67 104 (st.heap s g) s g (aQ st x):=tA aBK s g x
theorem aVU {call:Nat→List AV→Option AV} {ops:Array Oper} {st:St} {T:Nat} {pos:String} {eM:Array Edge} (d:Nat) (x:Operand):cE Tryz.prog call ops ⟨some d,.buildSlice 44 1 #[(0,x)],T,pos,eM,none⟩ st=O1 67 (st.ev x) (fun cs=>some ((st.new d (.row 87 67 1 cs)).put (some d) (.own d (st.aO d)))) (cE Tryz.prog call ops ⟨some d,.buildSlice 44 1 #[(0,x)],T,pos,eM,none⟩ st):=Fg aBK aOk (by rfl) (by decide) d x
theorem aVV (st:St) (x:AV):dC Tryz.prog st 45 (.v (.slice none 0 0)) x=yF 74 238 336 (aQ st x):=uQ oR x
theorem aVW (st:St) (s g:Nat) (x:AV):dC Tryz.prog st 45 (.own s g) x=xT 74 238 336 (st.heap s g) s g (aQ st x):=tA oR s g x
theorem aVX (st:St) (s g:Nat) (kk:IntKind) (i:Int):bD Tryz.prog st 45 (.own s g) (.v (.int kk i))=QG 74 238 (st.heap s g) s g i:=Pf aJE oR s g kk i
theorem aVY {call:Nat→List AV→Option AV} {ops:Array Oper} {st:St} {T:Nat} {pos:String} {eM:Array Edge} (d:Nat):cE Tryz.prog call ops ⟨some d,.buildSlice 45 0 #[],T,pos,eM,none⟩ st=some ((st.new d (.row 74 238 0 [])).put (some d) (.own d (st.aO d))):=Rx oR aIH d
theorem aVZ {call:Nat→List AV→Option AV} {ops:Array Oper} {st:St} {T:Nat} {pos:String} {eM:Array Edge} (d:Nat) (x:Operand):cE Tryz.prog call ops ⟨some d,.buildSlice 45 1 #[(0,x)],T,pos,eM,none⟩ st=O1 238 (st.ev x) (fun cs=>some ((st.new d (.row 74 238 1 cs)).put (some d) (.own d (st.aO d)))) (cE Tryz.prog call ops ⟨some d,.buildSlice 45 1 #[(0,x)],T,pos,eM,none⟩ st):=Fg oR aIH (by rfl) (by decide) d x
theorem aV0 {call:Nat→List AV→Option AV} {ops:Array Oper} {st:St} {T:Nat} {pos:String} {eM:Array Edge} (d:Nat):cE Tryz.prog call ops ⟨some d,.buildSlice 48 0 #[],T,pos,eM,none⟩ st=some ((st.new d (.row 76 240 0 [])).put (some d) (.own d (st.aO d))):=Rx RW aIM d
theorem aV1 (st:St) (x:AV):dC Tryz.prog st 51 (.v (.slice none 0 0)) x=yF 118 34 64 (aQ st x):=uQ KS x
theorem aV2 (st:St) (s g:Nat) (x:AV):dC Tryz.prog st 51 (.own s g) x=xT 118 34 64 (st.heap s g) s g (aQ st x):=tA KS s g x
theorem aV3 {call:Nat→List AV→Option AV} {ops:Array Oper} {st:St} {T:Nat} {pos:String} {eM:Array Edge} (d:Nat) (x:Operand):cE Tryz.prog call ops ⟨some d,.buildSlice 51 1 #[(0,x)],T,pos,eM,none⟩ st=O1 34 (st.ev x) (fun cs=>some ((st.new d (.row 118 34 1 cs)).put (some d) (.own d (st.aO d)))) (cE Tryz.prog call ops ⟨some d,.buildSlice 51 1 #[(0,x)],T,pos,eM,none⟩ st):=Fg KS aGx (by rfl) (by decide) d x
theorem aV4 (st:St) (x:AV):dC Tryz.prog st 54 (.v (.slice none 0 0)) x=yF 63 35 56 (aQ st x):=uQ yE x
theorem aV5 (st:St) (s g:Nat) (x:AV):dC Tryz.prog st 54 (.own s g) x=xT 63 35 56 (st.heap s g) s g (aQ st x):=tA yE s g x
theorem aV6 (st:St) (s g:Nat) (kk:IntKind) (i:Int):bD Tryz.prog st 54 (.own s g) (.v (.int kk i))=QG 63 35 (st.heap s g) s g i:=Pf aDu yE s g kk i
theorem aV7 {call:Nat→List AV→Option AV} {ops:Array Oper} {st:St} {T:Nat} {pos:String} {eM:Array Edge} (d:Nat):cE Tryz.prog call ops ⟨some d,.buildSlice 54 0 #[],T,pos,eM,none⟩ st=some ((st.new d (.row 63 35 0 [])).put (some d) (.own d (st.aO d))):=Rx yE aDp d
theorem aV8 {call:Nat→List AV→Option AV} {ops:Array Oper} {st:St} {T:Nat} {pos:String} {eM:Array Edge} (d:Nat) (x:Operand):cE Tryz.prog call ops ⟨some d,.buildSlice 54 1 #[(0,x)],T,pos,eM,none⟩ st=O1 35 (st.ev x) (fun cs=>some ((st.new d (.row 63 35 1 cs)).put (some d) (.own d (st.aO d)))) (cE Tryz.prog call ops ⟨some d,.buildSlice 54 1 #[(0,x)],T,pos,eM,none⟩ st):=Fg yE aDp (by rfl) (by decide) d x
theorem aV9 (st:St) (s g:Nat) (x:AV):dC Tryz.prog st 70 (.own s g) x=xT 27 32 32 (st.heap s g) s g (aQ st x):=tA aEW s g x
theorem aWa {call:Nat→List AV→Option AV} {ops:Array Oper} {st:St} {T:Nat} {pos:String} {eM:Array Edge} (d:Nat) (x:Operand):cE Tryz.prog call ops ⟨some d,.buildSlice 70 1 #[(0,x)],T,pos,eM,none⟩ st=O1 32 (st.ev x) (fun cs=>some ((st.new d (.row 27 32 1 cs)).put (some d) (.own d (st.aO d)))) (cE Tryz.prog call ops ⟨some d,.buildSlice 70 1 #[(0,x)],T,pos,eM,none⟩ st):=Fg aEW aOc (by rfl) (by decide) d x
theorem aOT (st:St) (s g:Nat) (kk:IntKind) (i:Int):bD Tryz.prog st 109 (.own s g) (.v (.int kk i))=QG 41 33 (st.heap s g) s g i:=Pf aGz Q3 s g kk i
theorem aOU (st:St) (x:AV):dC Tryz.prog st 124 (.v (.slice none 0 0)) x=yF 190 446 720 (aQ st x):=uQ v7 x
theorem aOV (st:St) (s g:Nat) (x:AV):dC Tryz.prog st 124 (.own s g) x=xT 190 446 720 (st.heap s g) s g (aQ st x):=tA v7 s g x
theorem aOW {call:Nat→List AV→Option AV} {ops:Array Oper} {st:St} {T:Nat} {pos:String} {eM:Array Edge} (d:Nat) (x:Operand):cE Tryz.prog call ops ⟨some d,.buildSlice 124 1 #[(0,x)],T,pos,eM,none⟩ st=O1 446 (st.ev x) (fun cs=>some ((st.new d (.row 190 446 1 cs)).put (some d) (.own d (st.aO d)))) (cE Tryz.prog call ops ⟨some d,.buildSlice 124 1 #[(0,x)],T,pos,eM,none⟩ st):=Fg v7 aGy (by rfl) (by decide) d x
theorem aOX {call:Nat→List AV→Option AV} {ops:Array Oper} {st:St} {T:Nat} {pos:String} {eM:Array Edge} (d:Nat) (x:Operand):cE Tryz.prog call ops ⟨some d,.buildSlice 181 1 #[(0,x)],T,pos,eM,none⟩ st=O1 96 (st.ev x) (fun cs=>some ((st.new d (.row 56 96 1 cs)).put (some d) (.own d (st.aO d)))) (cE Tryz.prog call ops ⟨some d,.buildSlice 181 1 #[(0,x)],T,pos,eM,none⟩ st):=Fg aGA aOx (by rfl) (by decide) d x
theorem aOY (st:St) (x:AV):dC Tryz.prog st 236 (.v (.slice none 0 0)) x=yF 5 1 1 (aQ st x):=uQ v8 x
theorem aOZ (st:St) (s g:Nat) (x:AV):dC Tryz.prog st 236 (.own s g) x=xT 5 1 1 (st.heap s g) s g (aQ st x):=tA v8 s g x
theorem aO0 {call:Nat→List AV→Option AV} {ops:Array Oper} {st:St} {T:Nat} {pos:String} {eM:Array Edge} (d:Nat) (x:Operand):cE Tryz.prog call ops ⟨some d,.buildSlice 236 1 #[(0,x)],T,pos,eM,none⟩ st=elV (st.ev x) (fun y=>some ((st.new d (.row 5 1 1 [.v y])).put (some d) (.own d (st.aO d)))) (cE Tryz.prog call ops ⟨some d,.buildSlice 236 1 #[(0,x)],T,pos,eM,none⟩ st):=JK v8 ze5 d x
theorem aO1 (st:St) (x:AV):dC Tryz.prog st 262 (.v (.slice none 0 0)) x=yF 4 1 1 (aQ st x):=uQ RX x
theorem aO2 (st:St) (s g:Nat) (x:AV):dC Tryz.prog st 262 (.own s g) x=xT 4 1 1 (st.heap s g) s g (aQ st x):=tA RX s g x
theorem aO3 {call:Nat→List AV→Option AV} {ops:Array Oper} {st:St} {T:Nat} {pos:String} {eM:Array Edge} (d:Nat) (x:Operand):cE Tryz.prog call ops ⟨some d,.buildSlice 262 1 #[(0,x)],T,pos,eM,none⟩ st=elV (st.ev x) (fun y=>some ((st.new d (.row 4 1 1 [.v y])).put (some d) (.own d (st.aO d)))) (cE Tryz.prog call ops ⟨some d,.buildSlice 262 1 #[(0,x)],T,pos,eM,none⟩ st):=JK RX ze4 d x
theorem aTq:bJ Tryz.f22=true:=by kernel_rfl
theorem aTr:bJ Tryz.f23=true:=by kernel_rfl
theorem aSx:bJ Tryz.f24=true:=by kernel_rfl
theorem aRY:tX Tryz.f25=true:=by kernel_rfl
theorem aSj:tX Tryz.f27=true:=by kernel_rfl
theorem aS6:bJ Tryz.f28=true:=by kernel_rfl
theorem aPO:bJ Tryz.f30=true:=by kernel_rfl
theorem aRT:bJ Tryz.f32=true:=by kernel_rfl
theorem aP5:bJ Tryz.f34=true:=by kernel_rfl
theorem aRS:bJ Tryz.f36=true:=by kernel_rfl
theorem aRX:bJ Tryz.f37=true:=by kernel_rfl
theorem aQJ:bJ Tryz.f39=true:=by kernel_rfl
theorem aQG:bJ Tryz.f40=true:=by kernel_rfl
theorem aS4:tX Tryz.f42=true:=by kernel_rfl
theorem aQX:bJ Tryz.f44=true:=by kernel_rfl
theorem aRF:bJ Tryz.f45=true:=by kernel_rfl
theorem aWb:bJ Tryz.f46=true:=by kernel_rfl
theorem aWc:bJ Tryz.f47=true:=by kernel_rfl
theorem aO4:bJ Tryz.f49=true:=by kernel_rfl
theorem aRZ:tX Tryz.f50=true:=by kernel_rfl
theorem aQM:bJ Tryz.f52=true:=by kernel_rfl
theorem aQI:bJ Tryz.f54=true:=by kernel_rfl
theorem aQO:tX Tryz.f59=true:=by kernel_rfl
theorem aQP:tX Tryz.f61=true:=by kernel_rfl
theorem aQh:bJ Tryz.f64=true:=by kernel_rfl
theorem aQB:bJ Tryz.f65=true:=by kernel_rfl
theorem aQN:bJ Tryz.f67=true:=by kernel_rfl
theorem aQK:bJ Tryz.f69=true:=by kernel_rfl
theorem aSd:bJ Tryz.f72=true:=by kernel_rfl
theorem aNJ:bJ Tryz.f73=true:=by kernel_rfl
theorem aSc:tX Tryz.f74=true:=by kernel_rfl
theorem aSw:tX Tryz.f75=true:=by kernel_rfl
theorem aO5:bJ Tryz.f76=true:=by kernel_rfl
theorem aS2:bJ Tryz.f80=true:=by kernel_rfl
theorem aNC:bJ Tryz.f81=true:=by kernel_rfl
theorem aS5:bJ Tryz.f82=true:=by kernel_rfl
theorem aRP:bJ Tryz.f85=true:=by kernel_rfl
theorem aRQ:bJ Tryz.f86=true:=by kernel_rfl
theorem aWd:bJ Tryz.f87=true:=by kernel_rfl
theorem aQa:bJ Tryz.f89=true:=by kernel_rfl
theorem aRR:bJ Tryz.f91=true:=by kernel_rfl
theorem aRI:bJ Tryz.f92=true:=by kernel_rfl
theorem aQu:bJ Tryz.f97=true:=by kernel_rfl
theorem aQv:bJ Tryz.f98=true:=by kernel_rfl
theorem aQx:bJ Tryz.f99=true:=by kernel_rfl
theorem aKN:bJ Tryz.f100=true:=by kernel_rfl
theorem aM8:bJ Tryz.f101=true:=by kernel_rfl
theorem aMr:bJ Tryz.f102=true:=by kernel_rfl
theorem aFS:bJ Tryz.f103=true:=by kernel_rfl
theorem aNz:bJ Tryz.f104=true:=by kernel_rfl
theorem aFR:bJ Tryz.f105=true:=by kernel_rfl
theorem aKQ:bJ Tryz.f106=true:=by kernel_rfl
theorem aNB:bJ Tryz.f107=true:=by kernel_rfl
theorem aFT:bJ Tryz.f108=true:=by kernel_rfl
theorem aNr:bJ Tryz.f109=true:=by kernel_rfl
theorem aLM:bJ Tryz.f110=true:=by kernel_rfl
theorem aMV:bJ Tryz.f111=true:=by kernel_rfl
theorem aLu:bJ Tryz.f114=true:=by kernel_rfl
theorem aLJ:bJ Tryz.f117=true:=by kernel_rfl
theorem aLj:bJ Tryz.f122=true:=by kernel_rfl
theorem aLl:bJ Tryz.f128=true:=by kernel_rfl
theorem aFF:bJ Tryz.f130=true:=by kernel_rfl
theorem aLy:bJ Tryz.f131=true:=by kernel_rfl
theorem aLh:bJ Tryz.f137=true:=by kernel_rfl
theorem aNH:bJ Tryz.f139=true:=by kernel_rfl
theorem aMZ:bJ Tryz.f143=true:=by kernel_rfl
theorem aNg:bJ Tryz.f144=true:=by kernel_rfl
theorem aKE:bJ Tryz.f145=true:=by kernel_rfl
theorem aM7:bJ Tryz.f146=true:=by kernel_rfl
theorem aNd:bJ Tryz.f147=true:=by kernel_rfl
theorem aGe:bJ Tryz.f148=true:=by kernel_rfl
theorem aKG:bJ Tryz.f149=true:=by kernel_rfl
theorem aKW:bJ Tryz.f150=true:=by kernel_rfl
theorem aKU:bJ Tryz.f151=true:=by kernel_rfl
theorem aKK:bJ Tryz.f155=true:=by kernel_rfl
theorem aKL:bJ Tryz.f156=true:=by kernel_rfl
theorem aKF:bJ Tryz.f157=true:=by kernel_rfl
theorem aLF:bJ Tryz.f158=true:=by kernel_rfl
theorem aFU:bJ Tryz.f159=true:=by kernel_rfl
theorem aGa:bJ Tryz.f160=true:=by kernel_rfl
theorem aNq:bJ Tryz.f161=true:=by kernel_rfl
theorem aNn:bJ Tryz.f162=true:=by kernel_rfl
theorem aNk:bJ Tryz.f163=true:=by kernel_rfl
theorem aGd:bJ Tryz.f164=true:=by kernel_rfl
theorem aK4:bJ Tryz.f165=true:=by kernel_rfl
theorem aNp:bJ Tryz.f166=true:=by kernel_rfl
theorem aLt:bJ Tryz.f169=true:=by kernel_rfl
theorem aLr:bJ Tryz.f170=true:=by kernel_rfl
theorem aLI:bJ Tryz.f172=true:=by kernel_rfl
theorem aFD:bJ Tryz.f175=true:=by kernel_rfl
theorem aLo:bJ Tryz.f176=true:=by kernel_rfl
theorem aMo:tX Tryz.f181=true:=by kernel_rfl
theorem aMX:bJ Tryz.f182=true:=by kernel_rfl
theorem aMY:bJ Tryz.f183=true:=by kernel_rfl
theorem aMT:tX Tryz.f184=true:=by kernel_rfl
theorem aNc:bJ Tryz.f185=true:=by kernel_rfl
theorem aO6:bJ Tryz.f186=true:=by kernel_rfl
theorem aKH:bJ Tryz.f188=true:=by kernel_rfl
theorem aKJ:bJ Tryz.f189=true:=by kernel_rfl
theorem aGb:bJ Tryz.f190=true:=by kernel_rfl
theorem aGc:bJ Tryz.f191=true:=by kernel_rfl
theorem aK3:bJ Tryz.f192=true:=by kernel_rfl
theorem aNo:bJ Tryz.f193=true:=by kernel_rfl
theorem aNl:bJ Tryz.f194=true:=by kernel_rfl
theorem aLH:tX Tryz.f195=true:=by kernel_rfl
theorem aKM:bJ Tryz.f196=true:=by kernel_rfl
theorem aMm:bJ Tryz.f199=true:=by kernel_rfl
theorem aMS:bJ Tryz.f200=true:=by kernel_rfl
theorem aMC:bJ Tryz.f201=true:=by kernel_rfl
theorem aM4:tX Tryz.f202=true:=by kernel_rfl
theorem aNb:bJ Tryz.f203=true:=by kernel_rfl
theorem aMg:bJ Tryz.f204=true:=by kernel_rfl
theorem aMf:bJ Tryz.f205=true:=by kernel_rfl
theorem aF7:bJ Tryz.f206=true:=by kernel_rfl
theorem aMl:bJ Tryz.f208=true:=by kernel_rfl
theorem aLT:bJ Tryz.f209=true:=by kernel_rfl
theorem aMM:tX Tryz.f210=true:=by kernel_rfl
theorem aMO:tX Tryz.f211=true:=by kernel_rfl
theorem aMP:bJ Tryz.f212=true:=by kernel_rfl
theorem aMQ:tX Tryz.f213=true:=by kernel_rfl
theorem aMR:tX Tryz.f214=true:=by kernel_rfl
theorem aFQ:bJ Tryz.f215=true:=by kernel_rfl
theorem aMB:bJ Tryz.f216=true:=by kernel_rfl
theorem aLP:bJ Tryz.f217=true:=by kernel_rfl
theorem aLL:bJ Tryz.f218=true:=by kernel_rfl
theorem aMe:bJ Tryz.f219=true:=by kernel_rfl
theorem aMd:bJ Tryz.f220=true:=by kernel_rfl
theorem aMb:bJ Tryz.f221=true:=by kernel_rfl
theorem aLe:bJ Tryz.f222=true:=by kernel_rfl
theorem aL3:bJ Tryz.f223=true:=by kernel_rfl
theorem aL8:bJ Tryz.f224=true:=by kernel_rfl
theorem aMi:bJ Tryz.f225=true:=by kernel_rfl
theorem aMv:bJ Tryz.f226=true:=by kernel_rfl
theorem aMJ:bJ Tryz.f227=true:=by kernel_rfl
theorem aMw:tX Tryz.f228=true:=by kernel_rfl
theorem aMK:bJ Tryz.f229=true:=by kernel_rfl
theorem aML:bJ Tryz.f230=true:=by kernel_rfl
theorem aFW:tX Tryz.f231=true:=by kernel_rfl
theorem aMA:bJ Tryz.f232=true:=by kernel_rfl
theorem aLv:bJ Tryz.f233=true:=by kernel_rfl
theorem aLS:bJ Tryz.f234=true:=by kernel_rfl
theorem aLV:tX Tryz.f235=true:=by kernel_rfl
theorem aK9:bJ Tryz.f236=true:=by kernel_rfl
theorem aLd:bJ Tryz.f237=true:=by kernel_rfl
theorem aLa:bJ Tryz.f238=true:=by kernel_rfl
theorem aLR:bJ Tryz.f239=true:=by kernel_rfl
theorem aLU:bJ Tryz.f240=true:=by kernel_rfl
theorem aL1:bJ Tryz.f241=true:=by kernel_rfl
theorem aL2:bJ Tryz.f242=true:=by kernel_rfl
theorem aLY:bJ Tryz.f243=true:=by kernel_rfl
theorem aFK:bJ Tryz.f244=true:=by kernel_rfl
theorem aKZ:bJ Tryz.f245=true:=by kernel_rfl
theorem aMH:bJ Tryz.f246=true:=by kernel_rfl
theorem aK8:bJ Tryz.f247=true:=by kernel_rfl
theorem aLX:bJ Tryz.f248=true:=by kernel_rfl
theorem aL6:bJ Tryz.f249=true:=by kernel_rfl
theorem aLQ:bJ Tryz.f250=true:=by kernel_rfl
theorem aLg:bJ Tryz.f251=true:=by kernel_rfl
theorem aL4:bJ Tryz.f252=true:=by kernel_rfl
end Go.Ab.Tryz
