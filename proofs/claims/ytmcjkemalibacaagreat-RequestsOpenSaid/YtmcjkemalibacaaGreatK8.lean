/-
  Part 8 of the proof: an evaluator of programs, its soundness, and what functions of this program compute.
-/
import Derived.Test.YtmcjkemalibacaaGreatK7
import Derived.Test.YtmcjkemalibacaaGreatProg
import Derived.KernelRfl
set_option linter.all false
set_option maxRecDepth 20000
set_option maxHeartbeats 40000000
namespace Go.Ab.Tryz
open Classical Go.Proofs Go.Ab
theorem mixed:Tryz.prog.follows .mixedOrders=true:=by kernel_rfl
theorem ld3 (cs:List AV) (o:Nat):eK Tryz.prog 3 cs o=cs[o]?:=by
 have:fO Tryz.prog 3=some (false,1):=by kernel_rfl
 simp only[eK,this]
theorem ik3:intKind Tryz.prog 3=some .i64:=by kernel_rfl
theorem lk3:sY Tryz.prog 3=some 1:=by kernel_rfl
theorem ze3:dW Tryz.prog 3=some [.int .i64 0]:=by kernel_rfl
theorem aRW (cs:List AV) (o:Nat):eK Tryz.prog 23 cs o=cs[o]?:=by
 have:fO Tryz.prog 23=some (false,1):=by kernel_rfl
 simp only[eK,this]
theorem aRX:intKind Tryz.prog 23=some .u64:=by kernel_rfl
theorem VM:sY Tryz.prog 23=some 1:=by kernel_rfl
theorem aGT:dW Tryz.prog 23=some [.int .u64 0]:=by kernel_rfl
theorem aRY:intKind Tryz.prog 61=some .u64:=by kernel_rfl
theorem aRZ:sY Tryz.prog 61=some 1:=by kernel_rfl
theorem aR0:dW Tryz.prog 61=some [.int .u64 0]:=by kernel_rfl
theorem ld5 (cs:List AV) (o:Nat):eK Tryz.prog 5 cs o=cs[o]?:=by
 have:fO Tryz.prog 5=some (false,1):=by kernel_rfl
 simp only[eK,this]
theorem ik5:intKind Tryz.prog 5=some .u8:=by kernel_rfl
theorem lk5:sY Tryz.prog 5=some 1:=by kernel_rfl
theorem ze5:dW Tryz.prog 5=some [.int .u8 0]:=by kernel_rfl
theorem ik2:intKind Tryz.prog 2=some .i64:=by kernel_rfl
theorem lk2:sY Tryz.prog 2=some 1:=by kernel_rfl
theorem ze2:dW Tryz.prog 2=some [.int .i64 0]:=by kernel_rfl
theorem aR1:intKind Tryz.prog 64=some .i64:=by kernel_rfl
theorem aR2:sY Tryz.prog 64=some 1:=by kernel_rfl
theorem aR3:dW Tryz.prog 64=some [.int .i64 0]:=by kernel_rfl
theorem ld4 (cs:List AV) (o:Nat):eK Tryz.prog 4 cs o=cs[o]?:=by
 have:fO Tryz.prog 4=some (false,1):=by kernel_rfl
 simp only[eK,this]
theorem lk4:sY Tryz.prog 4=some 1:=by kernel_rfl
theorem ze4:dW Tryz.prog 4=some [.bool false]:=by kernel_rfl
theorem be4 (a b:Bool):gB Tryz.prog .eql 4 (.v (.bool a)) (.v (.bool b))=some (.v (.bool (a == b))):=by
 have:Tryz.prog.underlying 4=some .bool:=by kernel_rfl
 simp only[gB,this]
theorem aR4 (cs:List AV) (o:Nat) (h:32≤cs.length-o):eK Tryz.prog 27 cs o=some (.agg (rd cs o 32)):=by
 have:fO Tryz.prog 27=some (true,32):=by kernel_rfl
 simp[eK,this,h]
theorem aFG:sY Tryz.prog 27=some 32:=by kernel_rfl
theorem aMC:dW Tryz.prog 27=some tQ:=by kernel_rfl
theorem aGU (a b:cA):vB Tryz.prog 27 (aV a) (aV b)=some (decide (a=b)):=rE (l:=Hb) (by kernel_rfl) (by kernel_rfl) (by kernel_rfl) (mM a b) (oQ a b)
theorem aR5 (a b:cA):gB Tryz.prog .eql 27 (.agg (aV a)) (.agg (aV b))=some (.v (.bool (decide (a=b)))):=by simp only[gB,aGU,Option.map_some]
theorem aR6 (a b:cA):gB Tryz.prog .neq 27 (.agg (aV a)) (.agg (aV b))=some (.v (.bool (!(decide (a=b))))):=by simp only[gB,aGU,Option.map_some]
theorem aFB:jL Tryz.prog 27=some (32,1):=by kernel_rfl
theorem aR7 (st:St) (parts:List (Nat × Operand)):iS Tryz.prog st 27 parts=if (parts.all fun p=>(st.ev p.2).jQ)=true then (gR (fun i=>some (i * 1,1)) (aV dE) (parts.map fun p=>(p.1,st.ev p.2))).map .agg else none:=iD (z:=tQ) (by kernel_rfl) jM (Vq (by kernel_rfl))
theorem aR8 (cs:List AV) (o:Nat) (h:4≤cs.length-o):eK Tryz.prog 33 cs o=some (.agg (rd cs o 4)):=by
 have:fO Tryz.prog 33=some (true,4):=by kernel_rfl
 simp[eK,this,h]
theorem aR9:sY Tryz.prog 33=some 4:=by kernel_rfl
theorem aSa:dW Tryz.prog 33=some BN:=by kernel_rfl
theorem aMD (a b:rL):vB Tryz.prog 33 (gF a) (gF b)=some (decide (a=b)):=rE (l:=w8) (by kernel_rfl) (by kernel_rfl) (by kernel_rfl) (Ob a b) (Tt a b)
theorem aSb (a b:rL):gB Tryz.prog .neq 33 (.agg (gF a)) (.agg (gF b))=some (.v (.bool (!(decide (a=b))))):=by simp only[gB,aMD,Option.map_some]
theorem aJV:jL Tryz.prog 33=some (4,1):=by kernel_rfl
theorem aSc (st:St) (parts:List (Nat × Operand)):iS Tryz.prog st 33 parts=if (parts.all fun p=>(st.ev p.2).jQ)=true then (gR (fun i=>some (i * 1,1)) (gF HU) (parts.map fun p=>(p.1,st.ev p.2))).map .agg else none:=iD (z:=BN) (by kernel_rfl) jN (Vq (by kernel_rfl))
theorem aSd (cs:List AV) (o:Nat) (h:33≤cs.length-o):eK Tryz.prog 41 cs o=some (.agg (rd cs o 33)):=by
 have:fO Tryz.prog 41=some (true,33):=by kernel_rfl
 simp[eK,this,h]
theorem aSe:sY Tryz.prog 41=some 33:=by kernel_rfl
theorem aGV:aU Tryz.prog 41 0=some 0:=by kernel_rfl
theorem aGW:aU Tryz.prog 41 1=some 1:=by kernel_rfl
theorem aKb:dW Tryz.prog 41=some Dl:=by kernel_rfl
theorem aGX (a b:fV):vB Tryz.prog 41 (bX a) (bX b)=some (decide (a=b)):=rE (l:=Vr) (by kernel_rfl) (by kernel_rfl) (by kernel_rfl) (tK a b) (mW a b)
theorem aSf (a b:fV):gB Tryz.prog .eql 41 (.agg (bX a)) (.agg (bX b))=some (.v (.bool (decide (a=b)))):=by simp only[gB,aGX,Option.map_some]
theorem aSg (a b:fV):gB Tryz.prog .neq 41 (.agg (bX a)) (.agg (bX b))=some (.v (.bool (!(decide (a=b))))):=by simp only[gB,aGX,Option.map_some]
theorem aSh (st:St) (parts:List (Nat × Operand)):iS Tryz.prog st 41 parts=if (parts.all fun p=>(st.ev p.2).jQ)=true then (gR (fun i=>([(0,1),(1,32)]:List (Nat × Nat))[i]?) (bX gX) (parts.map fun p=>(p.1,st.ev p.2))).map .agg else none:=iD (z:=Dl) (by kernel_rfl) Bp (fB (by kernel_rfl))
theorem aSi (cs:List AV) (o:Nat) (h:66≤cs.length-o):eK Tryz.prog 72 cs o=some (.agg (rd cs o 66)):=by
 have:fO Tryz.prog 72=some (true,66):=by kernel_rfl
 simp[eK,this,h]
theorem aSj:sY Tryz.prog 72=some 66:=by kernel_rfl
theorem aGY:aU Tryz.prog 72 0=some 0:=by kernel_rfl
theorem aGZ:aU Tryz.prog 72 1=some 33:=by kernel_rfl
theorem aSk:dW Tryz.prog 72=some Rj:=by kernel_rfl
theorem aSl (st:St) (parts:List (Nat × Operand)):iS Tryz.prog st 72 parts=if (parts.all fun p=>(st.ev p.2).jQ)=true then (gR (fun i=>([(0,33),(33,33)]:List (Nat × Nat))[i]?) (fM Pz) (parts.map fun p=>(p.1,st.ev p.2))).map .agg else none:=iD (z:=Rj) (by kernel_rfl) Tu (fB (by kernel_rfl))
theorem aSm (cs:List AV) (o:Nat) (h:238≤cs.length-o):eK Tryz.prog 74 cs o=some (.agg (rd cs o 238)):=by
 have:fO Tryz.prog 74=some (true,238):=by kernel_rfl
 simp[eK,this,h]
theorem WI:sY Tryz.prog 74=some 238:=by kernel_rfl
theorem aG0:aU Tryz.prog 74 0=some 0:=by kernel_rfl
theorem aG1:aU Tryz.prog 74 1=some 66:=by kernel_rfl
theorem aG2:aU Tryz.prog 74 2=some 67:=by kernel_rfl
theorem aG3:aU Tryz.prog 74 3=some 99:=by kernel_rfl
theorem aG4:aU Tryz.prog 74 4=some 131:=by kernel_rfl
theorem aG5:aU Tryz.prog 74 5=some 163:=by kernel_rfl
theorem aG6:aU Tryz.prog 74 6=some 167:=by kernel_rfl
theorem aG7:aU Tryz.prog 74 7=some 171:=by kernel_rfl
theorem aG8:aU Tryz.prog 74 8=some 204:=by kernel_rfl
theorem aG9:aU Tryz.prog 74 9=some 237:=by kernel_rfl
theorem aDj:dW Tryz.prog 74=some Tx:=by kernel_rfl
theorem aHa (a b:Block):vB Tryz.prog 74 (aT a) (aT b)=some (decide (a=b)):=rE (l:=XY) (by kernel_rfl) (by kernel_rfl) (by kernel_rfl) (Vs a b) (BR a b)
theorem aSn (a b:Block):gB Tryz.prog .eql 74 (.agg (aT a)) (.agg (aT b))=some (.v (.bool (decide (a=b)))):=by simp only[gB,aHa,Option.map_some]
theorem aSo (a b:Block):gB Tryz.prog .neq 74 (.agg (aT a)) (.agg (aT b))=some (.v (.bool (!(decide (a=b))))):=by simp only[gB,aHa,Option.map_some]
theorem aSp (st:St) (parts:List (Nat × Operand)):iS Tryz.prog st 74 parts=if (parts.all fun p=>(st.ev p.2).jQ)=true then (gR (fun i=>([(0,66),(66,1),(67,32),(99,32),(131,32),(163,4),(167,4),(171,33),(204,33),(237,1)]:List (Nat × Nat))[i]?) (aT fD) (parts.map fun p=>(p.1,st.ev p.2))).map .agg else none:=iD (z:=Tx) (by kernel_rfl) Rm (fB (by kernel_rfl))
theorem aSq (cs:List AV) (o:Nat) (h:240≤cs.length-o):eK Tryz.prog 76 cs o=some (.agg (rd cs o 240)):=by
 have:fO Tryz.prog 76=some (true,240):=by kernel_rfl
 simp[eK,this,h]
theorem aSr:sY Tryz.prog 76=some 240:=by kernel_rfl
theorem aHb:aU Tryz.prog 76 0=some 0:=by kernel_rfl
theorem aHc:aU Tryz.prog 76 1=some 238:=by kernel_rfl
theorem aHd:aU Tryz.prog 76 2=some 239:=by kernel_rfl
theorem aHe:dW Tryz.prog 76=some BS:=by kernel_rfl
theorem aME (a b:Node):vB Tryz.prog 76 (fF a) (fF b)=some (decide (a=b)):=rE (l:=aE6) (by kernel_rfl) (by kernel_rfl) (by kernel_rfl) (Yo a b) (J2 a b)
theorem aSs (a b:Node):gB Tryz.prog .neq 76 (.agg (fF a)) (.agg (fF b))=some (.v (.bool (!(decide (a=b))))):=by simp only[gB,aME,Option.map_some]
theorem aSt (st:St) (parts:List (Nat × Operand)):iS Tryz.prog st 76 parts=if (parts.all fun p=>(st.ev p.2).jQ)=true then (gR (fun i=>([(0,238),(238,1),(239,1)]:List (Nat × Nat))[i]?) (fF y8) (parts.map fun p=>(p.1,st.ev p.2))).map .agg else none:=iD (z:=BS) (by kernel_rfl) LB (fB (by kernel_rfl))
theorem aSu (cs:List AV) (o:Nat) (h:1≤cs.length-o):eK Tryz.prog 50 cs o=some (.agg (rd cs o 1)):=by
 have:fO Tryz.prog 50=some (true,1):=by kernel_rfl
 simp[eK,this,h]
theorem aSv:sY Tryz.prog 50=some 1:=by kernel_rfl
theorem aHf:aU Tryz.prog 50 0=some 0:=by kernel_rfl
theorem aSw:dW Tryz.prog 50=some [.slice none 0 0]:=by kernel_rfl
theorem aSx (st:St) (parts:List (Nat × Operand)):iS Tryz.prog st 50 parts=if (parts.all fun p=>(st.ev p.2).jQ)=true then (gR (fun i=>([(0,1)]:List (Nat × Nat))[i]?) [.v (.slice none 0 0)] (parts.map fun p=>(p.1,st.ev p.2))).map .agg else none:=iD (z:=[.slice none 0 0]) (by kernel_rfl) rfl (fB (by kernel_rfl))
theorem aSy (cs:List AV) (o:Nat) (h:1≤cs.length-o):eK Tryz.prog 25 cs o=some (.agg (rd cs o 1)):=by
 have:fO Tryz.prog 25=some (true,1):=by kernel_rfl
 simp[eK,this,h]
theorem aSz:sY Tryz.prog 25=some 1:=by kernel_rfl
theorem aHg:aU Tryz.prog 25 0=some 0:=by kernel_rfl
theorem aSA:dW Tryz.prog 25=some Lj:=by kernel_rfl
theorem aSB (st:St) (parts:List (Nat × Operand)):iS Tryz.prog st 25 parts=if (parts.all fun p=>(st.ev p.2).jQ)=true then (gR (fun i=>([(0,1)]:List (Nat × Nat))[i]?) (jW Xp) (parts.map fun p=>(p.1,st.ev p.2))).map .agg else none:=iD (z:=Lj) (by kernel_rfl) Lk (fB (by kernel_rfl))
theorem aSC (cs:List AV) (o:Nat) (h:34≤cs.length-o):eK Tryz.prog 29 cs o=some (.agg (rd cs o 34)):=by
 have:fO Tryz.prog 29=some (true,34):=by kernel_rfl
 simp[eK,this,h]
theorem aSD:sY Tryz.prog 29=some 34:=by kernel_rfl
theorem aHh:aU Tryz.prog 29 0=some 0:=by kernel_rfl
theorem aHi:aU Tryz.prog 29 1=some 1:=by kernel_rfl
theorem aHj:aU Tryz.prog 29 2=some 2:=by kernel_rfl
theorem aSE:dW Tryz.prog 29=some Dw:=by kernel_rfl
theorem aMF (a b:fL):vB Tryz.prog 29 (bW a) (bW b)=some (decide (a=b)):=rE (l:=SO) (by kernel_rfl) (by kernel_rfl) (by kernel_rfl) (EU a b) (LI a b)
theorem aSF (a b:fL):gB Tryz.prog .eql 29 (.agg (bW a)) (.agg (bW b))=some (.v (.bool (decide (a=b)))):=by simp only[gB,aMF,Option.map_some]
theorem aSG (st:St) (parts:List (Nat × Operand)):iS Tryz.prog st 29 parts=if (parts.all fun p=>(st.ev p.2).jQ)=true then (gR (fun i=>([(0,1),(1,1),(2,32)]:List (Nat × Nat))[i]?) (bW Ag) (parts.map fun p=>(p.1,st.ev p.2))).map .agg else none:=iD (z:=Dw) (by kernel_rfl) Oh (fB (by kernel_rfl))
theorem aSH (cs:List AV) (o:Nat) (h:6≤cs.length-o):eK Tryz.prog 31 cs o=some (.agg (rd cs o 6)):=by
 have:fO Tryz.prog 31=some (true,6):=by kernel_rfl
 simp[eK,this,h]
theorem aSI:sY Tryz.prog 31=some 6:=by kernel_rfl
theorem aHk:aU Tryz.prog 31 0=some 0:=by kernel_rfl
theorem aHl:aU Tryz.prog 31 1=some 1:=by kernel_rfl
theorem aHm:aU Tryz.prog 31 2=some 2:=by kernel_rfl
theorem aHn:aU Tryz.prog 31 3=some 3:=by kernel_rfl
theorem aHo:aU Tryz.prog 31 4=some 4:=by kernel_rfl
theorem aHp:aU Tryz.prog 31 5=some 5:=by kernel_rfl
theorem aSJ:dW Tryz.prog 31=some Rt:=by kernel_rfl
theorem aMG (a b:lU):vB Tryz.prog 31 (fS a) (fS b)=some (decide (a=b)):=rE (l:=z6) (by kernel_rfl) (by kernel_rfl) (by kernel_rfl) (LK a b) (SP a b)
theorem aSK (a b:lU):gB Tryz.prog .neq 31 (.agg (fS a)) (.agg (fS b))=some (.v (.bool (!(decide (a=b))))):=by simp only[gB,aMG,Option.map_some]
theorem aSL (st:St) (parts:List (Nat × Operand)):iS Tryz.prog st 31 parts=if (parts.all fun p=>(st.ev p.2).jQ)=true then (gR (fun i=>([(0,1),(1,1),(2,1),(3,1),(4,1),(5,1)]:List (Nat × Nat))[i]?) (fS LJ) (parts.map fun p=>(p.1,st.ev p.2))).map .agg else none:=iD (z:=Rt) (by kernel_rfl) Uf (fB (by kernel_rfl))
theorem aSM (cs:List AV) (o:Nat) (h:45≤cs.length-o):eK Tryz.prog 36 cs o=some (.agg (rd cs o 45)):=by
 have:fO Tryz.prog 36=some (true,45):=by kernel_rfl
 simp[eK,this,h]
theorem aSN:sY Tryz.prog 36=some 45:=by kernel_rfl
theorem aHq:aU Tryz.prog 36 0=some 0:=by kernel_rfl
theorem aHr:aU Tryz.prog 36 1=some 6:=by kernel_rfl
theorem aHs:aU Tryz.prog 36 2=some 7:=by kernel_rfl
theorem aHt:aU Tryz.prog 36 3=some 8:=by kernel_rfl
theorem aHu:aU Tryz.prog 36 4=some 12:=by kernel_rfl
theorem aHv:aU Tryz.prog 36 5=some 44:=by kernel_rfl
theorem aSO:dW Tryz.prog 36=some Rw:=by kernel_rfl
theorem aSP (st:St) (parts:List (Nat × Operand)):iS Tryz.prog st 36 parts=if (parts.all fun p=>(st.ev p.2).jQ)=true then (gR (fun i=>([(0,6),(6,1),(7,1),(8,4),(12,32),(44,1)]:List (Nat × Nat))[i]?) (bR nH) (parts.map fun p=>(p.1,st.ev p.2))).map .agg else none:=iD (z:=Rw) (by kernel_rfl) Uh (fB (by kernel_rfl))
theorem aMH (cs:List AV) (o:Nat) (h:34≤cs.length-o):eK Tryz.prog 100 cs o=some (.agg (rd cs o 34)):=by
 have:fO Tryz.prog 100=some (true,34):=by kernel_rfl
 simp[eK,this,h]
theorem aEr:sY Tryz.prog 100=some 34:=by kernel_rfl
theorem aDk:aU Tryz.prog 100 0=some 0:=by kernel_rfl
theorem aDl:aU Tryz.prog 100 1=some 1:=by kernel_rfl
theorem aDm:aU Tryz.prog 100 2=some 2:=by kernel_rfl
theorem aFa:dW Tryz.prog 100=some z7:=by kernel_rfl
theorem aFb (a b:kM):vB Tryz.prog 100 (jP a) (jP b)=some (decide (a=b)):=rE (l:=aE8) (by kernel_rfl) (by kernel_rfl) (by kernel_rfl) (YL a b) (K2 a b)
theorem aMI (a b:kM):gB Tryz.prog .neq 100 (.agg (jP a)) (.agg (jP b))=some (.v (.bool (!(decide (a=b))))):=by simp only[gB,aFb,Option.map_some]
theorem aMJ (st:St) (parts:List (Nat × Operand)):iS Tryz.prog st 100 parts=if (parts.all fun p=>(st.ev p.2).jQ)=true then (gR (fun i=>([(0,1),(1,1),(2,32)]:List (Nat × Nat))[i]?) (jP sR) (parts.map fun p=>(p.1,st.ev p.2))).map .agg else none:=iD (z:=z7) (by kernel_rfl) z8 (fB (by kernel_rfl))
theorem aSQ (cs:List AV) (o:Nat) (h:67≤cs.length-o):eK Tryz.prog 87 cs o=some (.agg (rd cs o 67)):=by
 have:fO Tryz.prog 87=some (true,67):=by kernel_rfl
 simp[eK,this,h]
theorem aSR:sY Tryz.prog 87=some 67:=by kernel_rfl
theorem aHw:aU Tryz.prog 87 0=some 0:=by kernel_rfl
theorem aHx:aU Tryz.prog 87 1=some 1:=by kernel_rfl
theorem aHy:aU Tryz.prog 87 2=some 33:=by kernel_rfl
theorem aHz:aU Tryz.prog 87 3=some 66:=by kernel_rfl
theorem aMK:dW Tryz.prog 87=some aAX:=by kernel_rfl
theorem aSS (st:St) (parts:List (Nat × Operand)):iS Tryz.prog st 87 parts=if (parts.all fun p=>(st.ev p.2).jQ)=true then (gR (fun i=>([(0,1),(1,32),(33,33),(66,1)]:List (Nat × Nat))[i]?) (gY Lo) (parts.map fun p=>(p.1,st.ev p.2))).map .agg else none:=iD (z:=aAX) (by kernel_rfl) YM (fB (by kernel_rfl))
theorem aML (cs:List AV) (o:Nat) (h:35≤cs.length-o):eK Tryz.prog 186 cs o=some (.agg (rd cs o 35)):=by
 have:fO Tryz.prog 186=some (true,35):=by kernel_rfl
 simp[eK,this,h]
theorem aMM:sY Tryz.prog 186=some 35:=by kernel_rfl
theorem aDn:aU Tryz.prog 186 0=some 0:=by kernel_rfl
theorem aDo:aU Tryz.prog 186 1=some 1:=by kernel_rfl
theorem aDp:aU Tryz.prog 186 2=some 2:=by kernel_rfl
theorem aDq:aU Tryz.prog 186 3=some 34:=by kernel_rfl
theorem aMN:dW Tryz.prog 186=some Ui:=by kernel_rfl
theorem aMO (st:St) (parts:List (Nat × Operand)):iS Tryz.prog st 186 parts=if (parts.all fun p=>(st.ev p.2).jQ)=true then (gR (fun i=>([(0,1),(1,1),(2,32),(34,1)]:List (Nat × Nat))[i]?) (gT LQ) (parts.map fun p=>(p.1,st.ev p.2))).map .agg else none:=iD (z:=Ui) (by kernel_rfl) BX (fB (by kernel_rfl))
theorem aMP (cs:List AV) (o:Nat) (h:70≤cs.length-o):eK Tryz.prog 188 cs o=some (.agg (rd cs o 70)):=by
 have:fO Tryz.prog 188=some (true,70):=by kernel_rfl
 simp[eK,this,h]
theorem aMQ:sY Tryz.prog 188=some 70:=by kernel_rfl
theorem aDr:aU Tryz.prog 188 0=some 0:=by kernel_rfl
theorem aDs:aU Tryz.prog 188 1=some 35:=by kernel_rfl
theorem aMR:dW Tryz.prog 188=some Ez:=by kernel_rfl
theorem aMS (st:St) (parts:List (Nat × Operand)):iS Tryz.prog st 188 parts=if (parts.all fun p=>(st.ev p.2).jQ)=true then (gR (fun i=>([(0,35),(35,35)]:List (Nat × Nat))[i]?) (bZ Uj) (parts.map fun p=>(p.1,st.ev p.2))).map .agg else none:=iD (z:=Ez) (by kernel_rfl) Ji (fB (by kernel_rfl))
theorem aMT (cs:List AV) (o:Nat) (h:34≤cs.length-o):eK Tryz.prog 118 cs o=some (.agg (rd cs o 34)):=by
 have:fO Tryz.prog 118=some (true,34):=by kernel_rfl
 simp[eK,this,h]
theorem aMU:sY Tryz.prog 118=some 34:=by kernel_rfl
theorem aDt:aU Tryz.prog 118 0=some 0:=by kernel_rfl
theorem aDu:aU Tryz.prog 118 1=some 33:=by kernel_rfl
theorem aFc:dW Tryz.prog 118=some BY:=by kernel_rfl
theorem aMV (st:St) (parts:List (Nat × Operand)):iS Tryz.prog st 118 parts=if (parts.all fun p=>(st.ev p.2).jQ)=true then (gR (fun i=>([(0,33),(33,1)]:List (Nat × Nat))[i]?) (cI iV) (parts.map fun p=>(p.1,st.ev p.2))).map .agg else none:=iD (z:=BY) (by kernel_rfl) BZ (fB (by kernel_rfl))
theorem aST (cs:List AV) (o:Nat) (h:35≤cs.length-o):eK Tryz.prog 63 cs o=some (.agg (rd cs o 35)):=by
 have:fO Tryz.prog 63=some (true,35):=by kernel_rfl
 simp[eK,this,h]
theorem aF9:sY Tryz.prog 63=some 35:=by kernel_rfl
theorem aHA:aU Tryz.prog 63 0=some 0:=by kernel_rfl
theorem aHB:aU Tryz.prog 63 1=some 1:=by kernel_rfl
theorem aHC:aU Tryz.prog 63 2=some 33:=by kernel_rfl
theorem aHD:aU Tryz.prog 63 3=some 34:=by kernel_rfl
theorem aCB:dW Tryz.prog 63=some Dv:=by kernel_rfl
theorem aMW (a b:Request):vB Tryz.prog 63 (bN a) (bN b)=some (decide (a=b)):=rE (l:=TB) (by kernel_rfl) (by kernel_rfl) (by kernel_rfl) (FI a b) (LV a b)
theorem aSU (a b:Request):gB Tryz.prog .neq 63 (.agg (bN a)) (.agg (bN b))=some (.v (.bool (!(decide (a=b))))):=by simp only[gB,aMW,Option.map_some]
theorem aSV (st:St) (parts:List (Nat × Operand)):iS Tryz.prog st 63 parts=if (parts.all fun p=>(st.ev p.2).jQ)=true then (gR (fun i=>([(0,1),(1,32),(33,1),(34,1)]:List (Nat × Nat))[i]?) (bN bU) (parts.map fun p=>(p.1,st.ev p.2))).map .agg else none:=iD (z:=Dv) (by kernel_rfl) CB (fB (by kernel_rfl))
theorem aSW (cs:List AV) (o:Nat) (h:96≤cs.length-o):eK Tryz.prog 56 cs o=some (.agg (rd cs o 96)):=by
 have:fO Tryz.prog 56=some (true,96):=by kernel_rfl
 simp[eK,this,h]
theorem aSX:sY Tryz.prog 56=some 96:=by kernel_rfl
theorem aHE:aU Tryz.prog 56 0=some 0:=by kernel_rfl
theorem aHF:aU Tryz.prog 56 1=some 32:=by kernel_rfl
theorem aHG:aU Tryz.prog 56 2=some 64:=by kernel_rfl
theorem aMX:dW Tryz.prog 56=some Jj:=by kernel_rfl
theorem aMY (a b:Command):vB Tryz.prog 56 (eC a) (eC b)=some (decide (a=b)):=rE (l:=TC) (by kernel_rfl) (by kernel_rfl) (by kernel_rfl) (FJ a b) (LW a b)
theorem aSY (a b:Command):gB Tryz.prog .eql 56 (.agg (eC a)) (.agg (eC b))=some (.v (.bool (decide (a=b)))):=by simp only[gB,aMY,Option.map_some]
theorem aSZ (st:St) (parts:List (Nat × Operand)):iS Tryz.prog st 56 parts=if (parts.all fun p=>(st.ev p.2).jQ)=true then (gR (fun i=>([(0,32),(32,32),(64,32)]:List (Nat × Nat))[i]?) (eC CF) (parts.map fun p=>(p.1,st.ev p.2))).map .agg else none:=iD (z:=Jj) (by kernel_rfl) On (fB (by kernel_rfl))
theorem aS0 (cs:List AV) (o:Nat) (h:2≤cs.length-o):eK Tryz.prog 39 cs o=some (.agg (rd cs o 2)):=by
 have:fO Tryz.prog 39=some (true,2):=by kernel_rfl
 simp[eK,this,h]
theorem aS1:sY Tryz.prog 39=some 2:=by kernel_rfl
theorem aHH:aU Tryz.prog 39 0=some 0:=by kernel_rfl
theorem aHI:aU Tryz.prog 39 1=some 1:=by kernel_rfl
theorem aS2:dW Tryz.prog 39=some CI:=by kernel_rfl
theorem aS3 (st:St) (parts:List (Nat × Operand)):iS Tryz.prog st 39 parts=if (parts.all fun p=>(st.ev p.2).jQ)=true then (gR (fun i=>([(0,1),(1,1)]:List (Nat × Nat))[i]?) (fC Im) (parts.map fun p=>(p.1,st.ev p.2))).map .agg else none:=iD (z:=CI) (by kernel_rfl) CJ (fB (by kernel_rfl))
theorem aS4 (cs:List AV) (o:Nat) (h:66≤cs.length-o):eK Tryz.prog 43 cs o=some (.agg (rd cs o 66)):=by
 have:fO Tryz.prog 43=some (true,66):=by kernel_rfl
 simp[eK,this,h]
theorem aS5:sY Tryz.prog 43=some 66:=by kernel_rfl
theorem aHJ:aU Tryz.prog 43 0=some 0:=by kernel_rfl
theorem aHK:aU Tryz.prog 43 1=some 33:=by kernel_rfl
theorem aS6:dW Tryz.prog 43=some Fc:=by kernel_rfl
theorem aMZ (a b:kH):vB Tryz.prog 43 (eT a) (eT b)=some (decide (a=b)):=rE (l:=HV) (by kernel_rfl) (by kernel_rfl) (by kernel_rfl) (CK a b) (FK a b)
theorem aS7 (a b:kH):gB Tryz.prog .neq 43 (.agg (eT a)) (.agg (eT b))=some (.v (.bool (!(decide (a=b))))):=by simp only[gB,aMZ,Option.map_some]
theorem aS8 (st:St) (parts:List (Nat × Operand)):iS Tryz.prog st 43 parts=if (parts.all fun p=>(st.ev p.2).jQ)=true then (gR (fun i=>([(0,33),(33,33)]:List (Nat × Nat))[i]?) (eT Uo) (parts.map fun p=>(p.1,st.ev p.2))).map .agg else none:=iD (z:=Fc) (by kernel_rfl) Jl (fB (by kernel_rfl))
theorem aS9:sY Tryz.prog 47=some 2:=by kernel_rfl
theorem aHL:aU Tryz.prog 47 0=some 0:=by kernel_rfl
theorem aHM:aU Tryz.prog 47 1=some 1:=by kernel_rfl
theorem aTa:dW Tryz.prog 47=some Xq:=by kernel_rfl
theorem aTb (cs:List AV) (o:Nat) (h:150≤cs.length-o):eK Tryz.prog 53 cs o=some (.agg (rd cs o 150)):=by
 have:fO Tryz.prog 53=some (true,150):=by kernel_rfl
 simp[eK,this,h]
theorem aTc:sY Tryz.prog 53=some 150:=by kernel_rfl
theorem aHN:aU Tryz.prog 53 0=some 0:=by kernel_rfl
theorem aHO:aU Tryz.prog 53 1=some 45:=by kernel_rfl
theorem aHP:aU Tryz.prog 53 2=some 47:=by kernel_rfl
theorem aHQ:aU Tryz.prog 53 3=some 113:=by kernel_rfl
theorem aHR:aU Tryz.prog 53 4=some 115:=by kernel_rfl
theorem aHS:aU Tryz.prog 53 5=some 116:=by kernel_rfl
theorem aHT:aU Tryz.prog 53 6=some 117:=by kernel_rfl
theorem aHU:aU Tryz.prog 53 7=some 149:=by kernel_rfl
theorem aTd:dW Tryz.prog 53=some CN:=by kernel_rfl
theorem aTe (st:St) (parts:List (Nat × Operand)):iS Tryz.prog st 53 parts=if (parts.all fun p=>(st.ev p.2).jQ)=true then (gR (fun i=>([(0,45),(45,2),(47,66),(113,2),(115,1),(116,1),(117,32),(149,1)]:List (Nat × Nat))[i]?) (aB gP) (parts.map fun p=>(p.1,st.ev p.2))).map .agg else none:=iD (z:=CN) (by kernel_rfl) CO (fB (by kernel_rfl))
theorem aTf (cs:List AV) (o:Nat) (h:252≤cs.length-o):eK Tryz.prog 58 cs o=some (.agg (rd cs o 252)):=by
 have:fO Tryz.prog 58=some (true,252):=by kernel_rfl
 simp[eK,this,h]
theorem aTg:sY Tryz.prog 58=some 252:=by kernel_rfl
theorem aHV:aU Tryz.prog 58 0=some 0:=by kernel_rfl
theorem aHW:aU Tryz.prog 58 1=some 150:=by kernel_rfl
theorem aHX:aU Tryz.prog 58 2=some 151:=by kernel_rfl
theorem aHY:aU Tryz.prog 58 3=some 152:=by kernel_rfl
theorem aHZ:aU Tryz.prog 58 4=some 153:=by kernel_rfl
theorem aH0:aU Tryz.prog 58 5=some 154:=by kernel_rfl
theorem aH1:aU Tryz.prog 58 6=some 250:=by kernel_rfl
theorem aH2:aU Tryz.prog 58 7=some 251:=by kernel_rfl
theorem aTh:dW Tryz.prog 58=some MB:=by kernel_rfl
theorem aTi (st:St) (parts:List (Nat × Operand)):iS Tryz.prog st 58 parts=if (parts.all fun p=>(st.ev p.2).jQ)=true then (gR (fun i=>([(0,150),(150,1),(151,1),(152,1),(153,1),(154,96),(250,1),(251,1)]:List (Nat × Nat))[i]?) (aF iW) (parts.map fun p=>(p.1,st.ev p.2))).map .agg else none:=iD (z:=MB) (by kernel_rfl) TF (fB (by kernel_rfl))
theorem aM0 (cs:List AV) (o:Nat) (h:446≤cs.length-o):eK Tryz.prog 190 cs o=some (.agg (rd cs o 446)):=by
 have:fO Tryz.prog 190=some (true,446):=by kernel_rfl
 simp[eK,this,h]
theorem aM1:sY Tryz.prog 190=some 446:=by kernel_rfl
theorem aDv:aU Tryz.prog 190 0=some 0:=by kernel_rfl
theorem aDw:aU Tryz.prog 190 1=some 1:=by kernel_rfl
theorem aDx:aU Tryz.prog 190 2=some 239:=by kernel_rfl
theorem aDy:aU Tryz.prog 190 3=some 306:=by kernel_rfl
theorem aDz:aU Tryz.prog 190 4=some 376:=by kernel_rfl
theorem aDA:aU Tryz.prog 190 5=some 410:=by kernel_rfl
theorem aDB:aU Tryz.prog 190 6=some 444:=by kernel_rfl
theorem aDC:aU Tryz.prog 190 7=some 445:=by kernel_rfl
theorem aFd:dW Tryz.prog 190=some aDi:=by kernel_rfl
theorem aM2 (st:St) (parts:List (Nat × Operand)):iS Tryz.prog st 190 parts=if (parts.all fun p=>(st.ev p.2).jQ)=true then (gR (fun i=>([(0,1),(1,238),(239,67),(306,70),(376,34),(410,34),(444,1),(445,1)]:List (Nat × Nat))[i]?) (kY Aa) (parts.map fun p=>(p.1,st.ev p.2))).map .agg else none:=iD (z:=aDi) (by kernel_rfl) aAY (fB (by kernel_rfl))
theorem aH3 (cs:List AV):Mx Tryz.prog 41 0 (.agg cs)=cs[0]?:=XR (k:=1) (by kernel_rfl)
theorem Na:dL Tryz.prog 22=some (3,1,8):=by kernel_rfl
theorem aDD:jL Tryz.prog 22=none:=by kernel_rfl
theorem aTj (cs:List AV) (o:Nat):eK Tryz.prog 22 cs o=cs[o]?:=by
 have:fO Tryz.prog 22=some (false,1):=by kernel_rfl
 simp only[eK,this]
theorem aTk:sY Tryz.prog 22=some 1:=by kernel_rfl
theorem aTl:dW Tryz.prog 22=some [.slice none 0 0]:=by kernel_rfl
theorem aTm (n:Nat) (cs:List AV) (h:cs≠[]):gB Tryz.prog .eql 22 (.sl n cs) (.v (.slice none 0 0))=some (.v (.bool false)):=by
 have:Tryz.prog.underlying 22=some (.slice 3):=by kernel_rfl
 cases cs with
 | nil=>exact absurd rfl h
 | cons c cs=>simp[gB,sD,this]
theorem aTn:gB Tryz.prog .eql 22 (.v (.slice none 0 0)) (.v (.slice none 0 0))=some (.v (.bool true)):=by
 have:Tryz.prog.underlying 22=some (.slice 3):=by kernel_rfl
 simp[gB,sD,this]
theorem YX:dL Tryz.prog 34=some (23,1,8):=by kernel_rfl
theorem aH4:jL Tryz.prog 34=none:=by kernel_rfl
theorem aTo (cs:List AV) (o:Nat):eK Tryz.prog 34 cs o=cs[o]?:=by
 have:fO Tryz.prog 34=some (false,1):=by kernel_rfl
 simp only[eK,this]
theorem aTp:sY Tryz.prog 34=some 1:=by kernel_rfl
theorem aTq:dW Tryz.prog 34=some [.slice none 0 0]:=by kernel_rfl
theorem aTr (n:Nat) (cs:List AV) (h:cs≠[]):gB Tryz.prog .eql 34 (.sl n cs) (.v (.slice none 0 0))=some (.v (.bool false)):=by
 have:Tryz.prog.underlying 34=some (.slice 23):=by kernel_rfl
 cases cs with
 | nil=>exact absurd rfl h
 | cons c cs=>simp[gB,sD,this]
theorem aTs:gB Tryz.prog .eql 34 (.v (.slice none 0 0)) (.v (.slice none 0 0))=some (.v (.bool true)):=by
 have:Tryz.prog.underlying 34=some (.slice 23):=by kernel_rfl
 simp[gB,sD,this]
theorem K5:dL Tryz.prog 37=some (100,34,48):=by kernel_rfl
theorem aH5:jL Tryz.prog 37=none:=by kernel_rfl
theorem aTt (cs:List AV) (o:Nat):eK Tryz.prog 37 cs o=cs[o]?:=by
 have:fO Tryz.prog 37=some (false,1):=by kernel_rfl
 simp only[eK,this]
theorem aTu:sY Tryz.prog 37=some 1:=by kernel_rfl
theorem aTv:dW Tryz.prog 37=some [.slice none 0 0]:=by kernel_rfl
theorem aTw (n:Nat) (cs:List AV) (h:cs≠[]):gB Tryz.prog .eql 37 (.sl n cs) (.v (.slice none 0 0))=some (.v (.bool false)):=by
 have:Tryz.prog.underlying 37=some (.slice 100):=by kernel_rfl
 cases cs with
 | nil=>exact absurd rfl h
 | cons c cs=>simp[gB,sD,this]
theorem aTx:gB Tryz.prog .eql 37 (.v (.slice none 0 0)) (.v (.slice none 0 0))=some (.v (.bool true)):=by
 have:Tryz.prog.underlying 37=some (.slice 100):=by kernel_rfl
 simp[gB,sD,this]
theorem aAZ:dL Tryz.prog 44=some (87,67,104):=by kernel_rfl
theorem aM3:jL Tryz.prog 44=none:=by kernel_rfl
theorem aTy (cs:List AV) (o:Nat):eK Tryz.prog 44 cs o=cs[o]?:=by
 have:fO Tryz.prog 44=some (false,1):=by kernel_rfl
 simp only[eK,this]
theorem aTz:sY Tryz.prog 44=some 1:=by kernel_rfl
theorem aTA:dW Tryz.prog 44=some [.slice none 0 0]:=by kernel_rfl
theorem oB:dL Tryz.prog 45=some (74,238,336):=by kernel_rfl
theorem aH6:jL Tryz.prog 45=none:=by kernel_rfl
theorem aTB (cs:List AV) (o:Nat):eK Tryz.prog 45 cs o=cs[o]?:=by
 have:fO Tryz.prog 45=some (false,1):=by kernel_rfl
 simp only[eK,this]
theorem aTC:sY Tryz.prog 45=some 1:=by kernel_rfl
theorem aTD:dW Tryz.prog 45=some [.slice none 0 0]:=by kernel_rfl
theorem aTE (n:Nat) (cs:List AV) (h:cs≠[]):gB Tryz.prog .eql 45 (.sl n cs) (.v (.slice none 0 0))=some (.v (.bool false)):=by
 have:Tryz.prog.underlying 45=some (.slice 74):=by kernel_rfl
 cases cs with
 | nil=>exact absurd rfl h
 | cons c cs=>simp[gB,sD,this]
theorem aTF:gB Tryz.prog .eql 45 (.v (.slice none 0 0)) (.v (.slice none 0 0))=some (.v (.bool true)):=by
 have:Tryz.prog.underlying 45=some (.slice 74):=by kernel_rfl
 simp[gB,sD,this]
theorem TJ:dL Tryz.prog 48=some (76,240,352):=by kernel_rfl
theorem aH7:jL Tryz.prog 48=none:=by kernel_rfl
theorem aTG (cs:List AV) (o:Nat):eK Tryz.prog 48 cs o=cs[o]?:=by
 have:fO Tryz.prog 48=some (false,1):=by kernel_rfl
 simp only[eK,this]
theorem aTH:sY Tryz.prog 48=some 1:=by kernel_rfl
theorem aTI:dW Tryz.prog 48=some [.slice none 0 0]:=by kernel_rfl
theorem aTJ (n:Nat) (cs:List AV) (h:cs≠[]):gB Tryz.prog .eql 48 (.sl n cs) (.v (.slice none 0 0))=some (.v (.bool false)):=by
 have:Tryz.prog.underlying 48=some (.slice 76):=by kernel_rfl
 cases cs with
 | nil=>exact absurd rfl h
 | cons c cs=>simp[gB,sD,this]
theorem MN:dL Tryz.prog 51=some (118,34,64):=by kernel_rfl
theorem aM4:jL Tryz.prog 51=none:=by kernel_rfl
theorem aTK (cs:List AV) (o:Nat):eK Tryz.prog 51 cs o=cs[o]?:=by
 have:fO Tryz.prog 51=some (false,1):=by kernel_rfl
 simp only[eK,this]
theorem aTL:sY Tryz.prog 51=some 1:=by kernel_rfl
theorem aTM:dW Tryz.prog 51=some [.slice none 0 0]:=by kernel_rfl
theorem Cv:dL Tryz.prog 54=some (63,35,56):=by kernel_rfl
theorem aH8:jL Tryz.prog 54=none:=by kernel_rfl
theorem aTN (cs:List AV) (o:Nat):eK Tryz.prog 54 cs o=cs[o]?:=by
 have:fO Tryz.prog 54=some (false,1):=by kernel_rfl
 simp only[eK,this]
theorem aTO:sY Tryz.prog 54=some 1:=by kernel_rfl
theorem aTP:dW Tryz.prog 54=some [.slice none 0 0]:=by kernel_rfl
theorem aTQ (n:Nat) (cs:List AV) (h:cs≠[]):gB Tryz.prog .eql 54 (.sl n cs) (.v (.slice none 0 0))=some (.v (.bool false)):=by
 have:Tryz.prog.underlying 54=some (.slice 63):=by kernel_rfl
 cases cs with
 | nil=>exact absurd rfl h
 | cons c cs=>simp[gB,sD,this]
theorem aTR:gB Tryz.prog .eql 54 (.v (.slice none 0 0)) (.v (.slice none 0 0))=some (.v (.bool true)):=by
 have:Tryz.prog.underlying 54=some (.slice 63):=by kernel_rfl
 simp[gB,sD,this]
theorem K6:dL Tryz.prog 70=some (27,32,32):=by kernel_rfl
theorem aH9:jL Tryz.prog 70=none:=by kernel_rfl
theorem aTS:sY Tryz.prog 70=some 1:=by kernel_rfl
theorem aTT:dW Tryz.prog 70=some [.slice none 0 0]:=by kernel_rfl
theorem Q2:dL Tryz.prog 109=some (41,33,40):=by kernel_rfl
theorem aFe:jL Tryz.prog 109=none:=by kernel_rfl
theorem aM5:sY Tryz.prog 109=some 1:=by kernel_rfl
theorem aM6:dW Tryz.prog 109=some [.slice none 0 0]:=by kernel_rfl
theorem z9:dL Tryz.prog 124=some (190,446,720):=by kernel_rfl
theorem aM7:jL Tryz.prog 124=none:=by kernel_rfl
theorem aM8:sY Tryz.prog 124=some 1:=by kernel_rfl
theorem aM9:dW Tryz.prog 124=some [.slice none 0 0]:=by kernel_rfl
theorem aFf:dL Tryz.prog 181=some (56,96,96):=by kernel_rfl
theorem aNa:jL Tryz.prog 181=none:=by kernel_rfl
theorem aNb:sY Tryz.prog 181=some 1:=by kernel_rfl
theorem aNc:dW Tryz.prog 181=some [.slice none 0 0]:=by kernel_rfl
theorem A0:dL Tryz.prog 236=some (5,1,1):=by kernel_rfl
theorem aNd:jL Tryz.prog 236=none:=by kernel_rfl
theorem aNe:sY Tryz.prog 236=some 1:=by kernel_rfl
theorem aNf:dW Tryz.prog 236=some [.slice none 0 0]:=by kernel_rfl
theorem TK:dL Tryz.prog 262=some (4,1,1):=by kernel_rfl
theorem aFg:jL Tryz.prog 262=none:=by kernel_rfl
theorem aNg:sY Tryz.prog 262=some 1:=by kernel_rfl
theorem aNh:dW Tryz.prog 262=some [.slice none 0 0]:=by kernel_rfl
theorem aTU {call:Nat→List AV→Option AV} {ops:Array Oper} {st:St} {T:Nat} {pos:String} {eH:Array Edge} (d:Nat):cD Tryz.prog call ops ⟨some d,.buildSlice 22 0 #[],T,pos,eH,none⟩ st=some ((st.new d (.row 3 1 0 [])).put (some d) (.own d (st.aP d))):=Og Na ze3 d
theorem aTV (st:St) (x:AV):cZ Tryz.prog st 34 (.v (.slice none 0 0)) x=xM 23 1 8 (aQ st x):=tA YX x
theorem aTW (st:St) (s g:Nat) (x:AV):cZ Tryz.prog st 34 (.own s g) x=xY 23 1 8 (st.heap s g) s g (aQ st x):=rV YX s g x
theorem aTX (st:St) (s g:Nat) (kk:IntKind) (i:Int):bD Tryz.prog st 34 (.own s g) (.v (.int kk i))=DQ 23 1 (st.heap s g) s g i:=Li aH4 YX s g kk i
theorem aTY {call:Nat→List AV→Option AV} {ops:Array Oper} {st:St} {T:Nat} {pos:String} {eH:Array Edge} (d:Nat):cD Tryz.prog call ops ⟨some d,.buildSlice 34 0 #[],T,pos,eH,none⟩ st=some ((st.new d (.row 23 1 0 [])).put (some d) (.own d (st.aP d))):=Og YX aGT d
theorem aTZ {call:Nat→List AV→Option AV} {ops:Array Oper} {st:St} {T:Nat} {pos:String} {eH:Array Edge} (d:Nat) (x:Operand):cD Tryz.prog call ops ⟨some d,.buildSlice 34 1 #[(0,x)],T,pos,eH,none⟩ st=elV (st.ev x) (fun y=>some ((st.new d (.row 23 1 1 [.v y])).put (some d) (.own d (st.aP d)))) (cD Tryz.prog call ops ⟨some d,.buildSlice 34 1 #[(0,x)],T,pos,eH,none⟩ st):=LC YX aGT d x
theorem aT0 (st:St) (x:AV):cZ Tryz.prog st 37 (.v (.slice none 0 0)) x=xM 100 34 48 (aQ st x):=tA K5 x
theorem aT1 (st:St) (s g:Nat) (x:AV):cZ Tryz.prog st 37 (.own s g) x=xY 100 34 48 (st.heap s g) s g (aQ st x):=rV K5 s g x
theorem aT2 (st:St) (s g:Nat) (kk:IntKind) (i:Int):bD Tryz.prog st 37 (.own s g) (.v (.int kk i))=DQ 100 34 (st.heap s g) s g i:=Li aH5 K5 s g kk i
theorem aT3 {call:Nat→List AV→Option AV} {ops:Array Oper} {st:St} {T:Nat} {pos:String} {eH:Array Edge} (d:Nat):cD Tryz.prog call ops ⟨some d,.buildSlice 37 0 #[],T,pos,eH,none⟩ st=some ((st.new d (.row 100 34 0 [])).put (some d) (.own d (st.aP d))):=Og K5 aFa d
theorem aT4 (st:St) (x:AV):cZ Tryz.prog st 44 (.v (.slice none 0 0)) x=xM 87 67 104 (aQ st x):=tA aAZ x
theorem aT5 (st:St) (s g:Nat) (x:AV):cZ Tryz.prog st 44 (.own s g) x=xY 87 67 104 (st.heap s g) s g (aQ st x):=rV aAZ s g x
theorem aT6 {call:Nat→List AV→Option AV} {ops:Array Oper} {st:St} {T:Nat} {pos:String} {eH:Array Edge} (d:Nat) (x:Operand):cD Tryz.prog call ops ⟨some d,.buildSlice 44 1 #[(0,x)],T,pos,eH,none⟩ st=O3 67 (st.ev x) (fun cs=>some ((st.new d (.row 87 67 1 cs)).put (some d) (.own d (st.aP d)))) (cD Tryz.prog call ops ⟨some d,.buildSlice 44 1 #[(0,x)],T,pos,eH,none⟩ st):=Gn aAZ aMK (by rfl) (by decide) d x
theorem aT7 (st:St) (x:AV):cZ Tryz.prog st 45 (.v (.slice none 0 0)) x=xM 74 238 336 (aQ st x):=tA oB x
theorem aT8 (st:St) (s g:Nat) (x:AV):cZ Tryz.prog st 45 (.own s g) x=xY 74 238 336 (st.heap s g) s g (aQ st x):=rV oB s g x
theorem aT9 (st:St) (s g:Nat) (kk:IntKind) (i:Int):bD Tryz.prog st 45 (.own s g) (.v (.int kk i))=DQ 74 238 (st.heap s g) s g i:=Li aH6 oB s g kk i
theorem aUa {call:Nat→List AV→Option AV} {ops:Array Oper} {st:St} {T:Nat} {pos:String} {eH:Array Edge} (d:Nat):cD Tryz.prog call ops ⟨some d,.buildSlice 45 0 #[],T,pos,eH,none⟩ st=some ((st.new d (.row 74 238 0 [])).put (some d) (.own d (st.aP d))):=Og oB aDj d
theorem aUb {call:Nat→List AV→Option AV} {ops:Array Oper} {st:St} {T:Nat} {pos:String} {eH:Array Edge} (d:Nat) (x:Operand):cD Tryz.prog call ops ⟨some d,.buildSlice 45 1 #[(0,x)],T,pos,eH,none⟩ st=O3 238 (st.ev x) (fun cs=>some ((st.new d (.row 74 238 1 cs)).put (some d) (.own d (st.aP d)))) (cD Tryz.prog call ops ⟨some d,.buildSlice 45 1 #[(0,x)],T,pos,eH,none⟩ st):=Gn oB aDj (by rfl) (by decide) d x
theorem aUc {call:Nat→List AV→Option AV} {ops:Array Oper} {st:St} {T:Nat} {pos:String} {eH:Array Edge} (d:Nat):cD Tryz.prog call ops ⟨some d,.buildSlice 48 0 #[],T,pos,eH,none⟩ st=some ((st.new d (.row 76 240 0 [])).put (some d) (.own d (st.aP d))):=Og TJ aHe d
theorem aUd (st:St) (x:AV):cZ Tryz.prog st 51 (.v (.slice none 0 0)) x=xM 118 34 64 (aQ st x):=tA MN x
theorem aUe (st:St) (s g:Nat) (x:AV):cZ Tryz.prog st 51 (.own s g) x=xY 118 34 64 (st.heap s g) s g (aQ st x):=rV MN s g x
theorem aUf {call:Nat→List AV→Option AV} {ops:Array Oper} {st:St} {T:Nat} {pos:String} {eH:Array Edge} (d:Nat) (x:Operand):cD Tryz.prog call ops ⟨some d,.buildSlice 51 1 #[(0,x)],T,pos,eH,none⟩ st=O3 34 (st.ev x) (fun cs=>some ((st.new d (.row 118 34 1 cs)).put (some d) (.own d (st.aP d)))) (cD Tryz.prog call ops ⟨some d,.buildSlice 51 1 #[(0,x)],T,pos,eH,none⟩ st):=Gn MN aFc (by rfl) (by decide) d x
theorem aUg (st:St) (x:AV):cZ Tryz.prog st 54 (.v (.slice none 0 0)) x=xM 63 35 56 (aQ st x):=tA Cv x
theorem aUh (st:St) (s g:Nat) (x:AV):cZ Tryz.prog st 54 (.own s g) x=xY 63 35 56 (st.heap s g) s g (aQ st x):=rV Cv s g x
theorem aUi (st:St) (s g:Nat) (kk:IntKind) (i:Int):bD Tryz.prog st 54 (.own s g) (.v (.int kk i))=DQ 63 35 (st.heap s g) s g i:=Li aH8 Cv s g kk i
theorem aUj {call:Nat→List AV→Option AV} {ops:Array Oper} {st:St} {T:Nat} {pos:String} {eH:Array Edge} (d:Nat):cD Tryz.prog call ops ⟨some d,.buildSlice 54 0 #[],T,pos,eH,none⟩ st=some ((st.new d (.row 63 35 0 [])).put (some d) (.own d (st.aP d))):=Og Cv aCB d
theorem aUk {call:Nat→List AV→Option AV} {ops:Array Oper} {st:St} {T:Nat} {pos:String} {eH:Array Edge} (d:Nat) (x:Operand):cD Tryz.prog call ops ⟨some d,.buildSlice 54 1 #[(0,x)],T,pos,eH,none⟩ st=O3 35 (st.ev x) (fun cs=>some ((st.new d (.row 63 35 1 cs)).put (some d) (.own d (st.aP d)))) (cD Tryz.prog call ops ⟨some d,.buildSlice 54 1 #[(0,x)],T,pos,eH,none⟩ st):=Gn Cv aCB (by rfl) (by decide) d x
theorem aUl (st:St) (x:AV):cZ Tryz.prog st 70 (.v (.slice none 0 0)) x=xM 27 32 32 (aQ st x):=tA K6 x
theorem aUm (st:St) (s g:Nat) (x:AV):cZ Tryz.prog st 70 (.own s g) x=xY 27 32 32 (st.heap s g) s g (aQ st x):=rV K6 s g x
theorem aUn (st:St) (s g:Nat) (kk:IntKind) (i:Int):bD Tryz.prog st 70 (.own s g) (.v (.int kk i))=DQ 27 32 (st.heap s g) s g i:=Li aH9 K6 s g kk i
theorem aUo {call:Nat→List AV→Option AV} {ops:Array Oper} {st:St} {T:Nat} {pos:String} {eH:Array Edge} (d:Nat) (x:Operand):cD Tryz.prog call ops ⟨some d,.buildSlice 70 1 #[(0,x)],T,pos,eH,none⟩ st=O3 32 (st.ev x) (fun cs=>some ((st.new d (.row 27 32 1 cs)).put (some d) (.own d (st.aP d)))) (cD Tryz.prog call ops ⟨some d,.buildSlice 70 1 #[(0,x)],T,pos,eH,none⟩ st):=Gn K6 aMC (by rfl) (by decide) d x
theorem aNi (st:St) (s g:Nat) (kk:IntKind) (i:Int):bD Tryz.prog st 109 (.own s g) (.v (.int kk i))=DQ 41 33 (st.heap s g) s g i:=Li aFe Q2 s g kk i
theorem aNj (st:St) (x:AV):cZ Tryz.prog st 124 (.v (.slice none 0 0)) x=xM 190 446 720 (aQ st x):=tA z9 x
theorem aNk (st:St) (s g:Nat) (x:AV):cZ Tryz.prog st 124 (.own s g) x=xY 190 446 720 (st.heap s g) s g (aQ st x):=rV z9 s g x
theorem aNl {call:Nat→List AV→Option AV} {ops:Array Oper} {st:St} {T:Nat} {pos:String} {eH:Array Edge} (d:Nat) (x:Operand):cD Tryz.prog call ops ⟨some d,.buildSlice 124 1 #[(0,x)],T,pos,eH,none⟩ st=O3 446 (st.ev x) (fun cs=>some ((st.new d (.row 190 446 1 cs)).put (some d) (.own d (st.aP d)))) (cD Tryz.prog call ops ⟨some d,.buildSlice 124 1 #[(0,x)],T,pos,eH,none⟩ st):=Gn z9 aFd (by rfl) (by decide) d x
theorem aNm {call:Nat→List AV→Option AV} {ops:Array Oper} {st:St} {T:Nat} {pos:String} {eH:Array Edge} (d:Nat) (x:Operand):cD Tryz.prog call ops ⟨some d,.buildSlice 181 1 #[(0,x)],T,pos,eH,none⟩ st=O3 96 (st.ev x) (fun cs=>some ((st.new d (.row 56 96 1 cs)).put (some d) (.own d (st.aP d)))) (cD Tryz.prog call ops ⟨some d,.buildSlice 181 1 #[(0,x)],T,pos,eH,none⟩ st):=Gn aFf aMX (by rfl) (by decide) d x
theorem aNn (st:St) (x:AV):cZ Tryz.prog st 236 (.v (.slice none 0 0)) x=xM 5 1 1 (aQ st x):=tA A0 x
theorem aNo (st:St) (s g:Nat) (x:AV):cZ Tryz.prog st 236 (.own s g) x=xY 5 1 1 (st.heap s g) s g (aQ st x):=rV A0 s g x
theorem aNp {call:Nat→List AV→Option AV} {ops:Array Oper} {st:St} {T:Nat} {pos:String} {eH:Array Edge} (d:Nat) (x:Operand):cD Tryz.prog call ops ⟨some d,.buildSlice 236 1 #[(0,x)],T,pos,eH,none⟩ st=elV (st.ev x) (fun y=>some ((st.new d (.row 5 1 1 [.v y])).put (some d) (.own d (st.aP d)))) (cD Tryz.prog call ops ⟨some d,.buildSlice 236 1 #[(0,x)],T,pos,eH,none⟩ st):=LC A0 ze5 d x
theorem aNq (st:St) (x:AV):cZ Tryz.prog st 262 (.v (.slice none 0 0)) x=xM 4 1 1 (aQ st x):=tA TK x
theorem aNr (st:St) (s g:Nat) (x:AV):cZ Tryz.prog st 262 (.own s g) x=xY 4 1 1 (st.heap s g) s g (aQ st x):=rV TK s g x
theorem aNs {call:Nat→List AV→Option AV} {ops:Array Oper} {st:St} {T:Nat} {pos:String} {eH:Array Edge} (d:Nat) (x:Operand):cD Tryz.prog call ops ⟨some d,.buildSlice 262 1 #[(0,x)],T,pos,eH,none⟩ st=elV (st.ev x) (fun y=>some ((st.new d (.row 4 1 1 [.v y])).put (some d) (.own d (st.aP d)))) (cD Tryz.prog call ops ⟨some d,.buildSlice 262 1 #[(0,x)],T,pos,eH,none⟩ st):=LC TK ze4 d x
theorem ok4:bF Tryz.f4=true:=by kernel_rfl
theorem aQW:bF Tryz.f24=true:=by kernel_rfl
theorem aQr:sL Tryz.f25=true:=by kernel_rfl
theorem aMf:sL Tryz.f26=true:=by kernel_rfl
theorem aQL:sL Tryz.f27=true:=by kernel_rfl
theorem aRA:bF Tryz.f28=true:=by kernel_rfl
theorem aRD:bF Tryz.f29=true:=by kernel_rfl
theorem aOh:bF Tryz.f30=true:=by kernel_rfl
theorem aMi:bF Tryz.f31=true:=by kernel_rfl
theorem aQm:bF Tryz.f32=true:=by kernel_rfl
theorem aOw:bF Tryz.f34=true:=by kernel_rfl
theorem aQl:bF Tryz.f36=true:=by kernel_rfl
theorem aQq:bF Tryz.f37=true:=by kernel_rfl
theorem aPb:bF Tryz.f39=true:=by kernel_rfl
theorem aO8:bF Tryz.f40=true:=by kernel_rfl
theorem aRy:sL Tryz.f42=true:=by kernel_rfl
theorem aPp:bF Tryz.f44=true:=by kernel_rfl
theorem aP8:bF Tryz.f45=true:=by kernel_rfl
theorem aOd:bF Tryz.f46=true:=by kernel_rfl
theorem aOg:bF Tryz.f47=true:=by kernel_rfl
theorem aI8:bF Tryz.f49=true:=by kernel_rfl
theorem aQs:sL Tryz.f50=true:=by kernel_rfl
theorem aPe:bF Tryz.f52=true:=by kernel_rfl
theorem aPa:bF Tryz.f54=true:=by kernel_rfl
theorem aPg:sL Tryz.f59=true:=by kernel_rfl
theorem aPh:sL Tryz.f61=true:=by kernel_rfl
theorem aOI:bF Tryz.f64=true:=by kernel_rfl
theorem aO3:bF Tryz.f65=true:=by kernel_rfl
theorem aPf:bF Tryz.f67=true:=by kernel_rfl
theorem aPc:bF Tryz.f69=true:=by kernel_rfl
theorem aQG:bF Tryz.f72=true:=by kernel_rfl
theorem aQF:sL Tryz.f74=true:=by kernel_rfl
theorem aQV:sL Tryz.f75=true:=by kernel_rfl
theorem aJa:bF Tryz.f76=true:=by kernel_rfl
theorem aRx:bF Tryz.f77=true:=by kernel_rfl
theorem aRw:bF Tryz.f78=true:=by kernel_rfl
theorem aRv:bF Tryz.f79=true:=by kernel_rfl
theorem aRt:bF Tryz.f80=true:=by kernel_rfl
theorem aRs:bF Tryz.f81=true:=by kernel_rfl
theorem aRz:bF Tryz.f82=true:=by kernel_rfl
theorem aRB:bF Tryz.f83=true:=by kernel_rfl
theorem aRE:bF Tryz.f84=true:=by kernel_rfl
theorem aQi:bF Tryz.f85=true:=by kernel_rfl
theorem aQj:bF Tryz.f86=true:=by kernel_rfl
theorem aOb:bF Tryz.f87=true:=by kernel_rfl
theorem aOB:bF Tryz.f89=true:=by kernel_rfl
theorem aQk:bF Tryz.f91=true:=by kernel_rfl
theorem aQb:bF Tryz.f92=true:=by kernel_rfl
theorem aOW:bF Tryz.f97=true:=by kernel_rfl
theorem aOX:bF Tryz.f98=true:=by kernel_rfl
theorem aOZ:bF Tryz.f99=true:=by kernel_rfl
theorem aJm:bF Tryz.f100=true:=by kernel_rfl
theorem aLH:bF Tryz.f101=true:=by kernel_rfl
theorem aKY:bF Tryz.f102=true:=by kernel_rfl
theorem aEB:bF Tryz.f103=true:=by kernel_rfl
theorem aMb:bF Tryz.f104=true:=by kernel_rfl
theorem aEA:bF Tryz.f105=true:=by kernel_rfl
theorem aJp:bF Tryz.f106=true:=by kernel_rfl
theorem aMd:bF Tryz.f107=true:=by kernel_rfl
theorem aEC:bF Tryz.f108=true:=by kernel_rfl
theorem aL3:bF Tryz.f109=true:=by kernel_rfl
theorem aKk:bF Tryz.f110=true:=by kernel_rfl
theorem aLs:bF Tryz.f111=true:=by kernel_rfl
theorem aJ3:bF Tryz.f114=true:=by kernel_rfl
theorem aKh:bF Tryz.f117=true:=by kernel_rfl
theorem aJS:bF Tryz.f122=true:=by kernel_rfl
theorem aJU:bF Tryz.f128=true:=by kernel_rfl
theorem aEn:bF Tryz.f130=true:=by kernel_rfl
theorem aJ7:bF Tryz.f131=true:=by kernel_rfl
theorem aJQ:bF Tryz.f137=true:=by kernel_rfl
theorem aLw:bF Tryz.f143=true:=by kernel_rfl
theorem aLS:bF Tryz.f144=true:=by kernel_rfl
theorem aJc:bF Tryz.f145=true:=by kernel_rfl
theorem aLF:bF Tryz.f146=true:=by kernel_rfl
theorem aLO:bF Tryz.f147=true:=by kernel_rfl
theorem aEX:bF Tryz.f148=true:=by kernel_rfl
theorem aJe:bF Tryz.f149=true:=by kernel_rfl
theorem aJv:bF Tryz.f150=true:=by kernel_rfl
theorem aJt:bF Tryz.f151=true:=by kernel_rfl
theorem aJj:bF Tryz.f155=true:=by kernel_rfl
theorem aJk:bF Tryz.f156=true:=by kernel_rfl
theorem aJd:bF Tryz.f157=true:=by kernel_rfl
theorem aKd:bF Tryz.f158=true:=by kernel_rfl
theorem aED:bF Tryz.f159=true:=by kernel_rfl
theorem aET:bF Tryz.f160=true:=by kernel_rfl
theorem aL2:bF Tryz.f161=true:=by kernel_rfl
theorem aLZ:bF Tryz.f162=true:=by kernel_rfl
theorem aLW:bF Tryz.f163=true:=by kernel_rfl
theorem aEW:bF Tryz.f164=true:=by kernel_rfl
theorem aJD:bF Tryz.f165=true:=by kernel_rfl
theorem aL1:bF Tryz.f166=true:=by kernel_rfl
theorem aJ2:bF Tryz.f169=true:=by kernel_rfl
theorem aJ0:bF Tryz.f170=true:=by kernel_rfl
theorem aKg:bF Tryz.f172=true:=by kernel_rfl
theorem aEl:bF Tryz.f175=true:=by kernel_rfl
theorem aJX:bF Tryz.f176=true:=by kernel_rfl
theorem aKV:sL Tryz.f181=true:=by kernel_rfl
theorem aLu:bF Tryz.f182=true:=by kernel_rfl
theorem aLv:bF Tryz.f183=true:=by kernel_rfl
theorem aLq:sL Tryz.f184=true:=by kernel_rfl
theorem aLM:bF Tryz.f185=true:=by kernel_rfl
theorem aI7:bF Tryz.f186=true:=by kernel_rfl
theorem aJg:bF Tryz.f188=true:=by kernel_rfl
theorem aJi:bF Tryz.f189=true:=by kernel_rfl
theorem aEU:bF Tryz.f190=true:=by kernel_rfl
theorem aEV:bF Tryz.f191=true:=by kernel_rfl
theorem aJC:bF Tryz.f192=true:=by kernel_rfl
theorem aL0:bF Tryz.f193=true:=by kernel_rfl
theorem aLX:bF Tryz.f194=true:=by kernel_rfl
theorem aKf:sL Tryz.f195=true:=by kernel_rfl
theorem aJl:bF Tryz.f196=true:=by kernel_rfl
theorem aKT:bF Tryz.f199=true:=by kernel_rfl
theorem aLp:bF Tryz.f200=true:=by kernel_rfl
theorem aK9:bF Tryz.f201=true:=by kernel_rfl
theorem aLB:sL Tryz.f202=true:=by kernel_rfl
theorem aLL:bF Tryz.f203=true:=by kernel_rfl
theorem aKN:bF Tryz.f204=true:=by kernel_rfl
theorem aKM:bF Tryz.f205=true:=by kernel_rfl
theorem aEP:bF Tryz.f206=true:=by kernel_rfl
theorem aKS:bF Tryz.f208=true:=by kernel_rfl
theorem aKr:bF Tryz.f209=true:=by kernel_rfl
theorem aLj:sL Tryz.f210=true:=by kernel_rfl
theorem aLl:sL Tryz.f211=true:=by kernel_rfl
theorem aLm:bF Tryz.f212=true:=by kernel_rfl
theorem aLn:sL Tryz.f213=true:=by kernel_rfl
theorem aLo:sL Tryz.f214=true:=by kernel_rfl
theorem aEz:bF Tryz.f215=true:=by kernel_rfl
theorem aK8:bF Tryz.f216=true:=by kernel_rfl
theorem aKn:bF Tryz.f217=true:=by kernel_rfl
theorem aKj:bF Tryz.f218=true:=by kernel_rfl
theorem aKL:bF Tryz.f219=true:=by kernel_rfl
theorem aKK:bF Tryz.f220=true:=by kernel_rfl
theorem aKI:bF Tryz.f221=true:=by kernel_rfl
theorem aJN:bF Tryz.f222=true:=by kernel_rfl
theorem aKA:bF Tryz.f223=true:=by kernel_rfl
theorem aKF:bF Tryz.f224=true:=by kernel_rfl
theorem aKP:bF Tryz.f225=true:=by kernel_rfl
theorem aK2:bF Tryz.f226=true:=by kernel_rfl
theorem aLg:bF Tryz.f227=true:=by kernel_rfl
theorem aK3:sL Tryz.f228=true:=by kernel_rfl
theorem aLh:bF Tryz.f229=true:=by kernel_rfl
theorem aLi:bF Tryz.f230=true:=by kernel_rfl
theorem aEF:sL Tryz.f231=true:=by kernel_rfl
theorem aK7:bF Tryz.f232=true:=by kernel_rfl
theorem aJ4:bF Tryz.f233=true:=by kernel_rfl
theorem aKq:bF Tryz.f234=true:=by kernel_rfl
theorem aKt:sL Tryz.f235=true:=by kernel_rfl
theorem aJI:bF Tryz.f236=true:=by kernel_rfl
theorem aJM:bF Tryz.f237=true:=by kernel_rfl
theorem aJJ:bF Tryz.f238=true:=by kernel_rfl
theorem aKp:bF Tryz.f239=true:=by kernel_rfl
theorem aKs:bF Tryz.f240=true:=by kernel_rfl
theorem aKy:bF Tryz.f241=true:=by kernel_rfl
theorem aKz:bF Tryz.f242=true:=by kernel_rfl
theorem aKv:bF Tryz.f243=true:=by kernel_rfl
theorem aEt:bF Tryz.f244=true:=by kernel_rfl
theorem aJy:bF Tryz.f245=true:=by kernel_rfl
theorem aLe:bF Tryz.f246=true:=by kernel_rfl
theorem aJH:bF Tryz.f247=true:=by kernel_rfl
theorem aKu:bF Tryz.f248=true:=by kernel_rfl
theorem aKD:bF Tryz.f249=true:=by kernel_rfl
theorem aKo:bF Tryz.f250=true:=by kernel_rfl
theorem aJP:bF Tryz.f251=true:=by kernel_rfl
theorem aKB:bF Tryz.f252=true:=by kernel_rfl
end Go.Ab.Tryz
