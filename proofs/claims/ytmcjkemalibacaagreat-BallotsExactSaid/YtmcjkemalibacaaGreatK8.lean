/-
  Part 8 of the proof: an evaluator of programs, its soundness, and what functions of this program compute.
-/
import Derived.Test.YtmcjkemalibacaaGreatK7
import Derived.Test.YtmcjkemalibacaaGreatProg
import Derived.KernelRfl
set_option linter.all false
set_option maxRecDepth 20000
set_option maxHeartbeats 40000000
namespace Go.Ab.Tryz
open Classical Go.Proofs Go.Ab
theorem mixed:Tryz.prog.follows .mixedOrders=true:=by kernel_rfl
theorem ld3 (cs:List AV) (o:Nat):fF Tryz.prog 3 cs o=cs[o]?:=by
 have:fL Tryz.prog 3=some (false,1):=by kernel_rfl
 simp only[fF,this]
theorem ik3:intKind Tryz.prog 3=some .i64:=by kernel_rfl
theorem lk3:sN Tryz.prog 3=some 1:=by kernel_rfl
theorem ze3:eF Tryz.prog 3=some [.int .i64 0]:=by kernel_rfl
theorem aRr (cs:List AV) (o:Nat):fF Tryz.prog 23 cs o=cs[o]?:=by
 have:fL Tryz.prog 23=some (false,1):=by kernel_rfl
 simp only[fF,this]
theorem aRs:intKind Tryz.prog 23=some .u64:=by kernel_rfl
theorem SP:sN Tryz.prog 23=some 1:=by kernel_rfl
theorem aGq:eF Tryz.prog 23=some [.int .u64 0]:=by kernel_rfl
theorem aRt:intKind Tryz.prog 61=some .u64:=by kernel_rfl
theorem aRu:sN Tryz.prog 61=some 1:=by kernel_rfl
theorem aRv:eF Tryz.prog 61=some [.int .u64 0]:=by kernel_rfl
theorem ld5 (cs:List AV) (o:Nat):fF Tryz.prog 5 cs o=cs[o]?:=by
 have:fL Tryz.prog 5=some (false,1):=by kernel_rfl
 simp only[fF,this]
theorem ik5:intKind Tryz.prog 5=some .u8:=by kernel_rfl
theorem lk5:sN Tryz.prog 5=some 1:=by kernel_rfl
theorem ze5:eF Tryz.prog 5=some [.int .u8 0]:=by kernel_rfl
theorem ik2:intKind Tryz.prog 2=some .i64:=by kernel_rfl
theorem lk2:sN Tryz.prog 2=some 1:=by kernel_rfl
theorem ze2:eF Tryz.prog 2=some [.int .i64 0]:=by kernel_rfl
theorem aRw:intKind Tryz.prog 64=some .i64:=by kernel_rfl
theorem aRx:sN Tryz.prog 64=some 1:=by kernel_rfl
theorem aRy:eF Tryz.prog 64=some [.int .i64 0]:=by kernel_rfl
theorem ld4 (cs:List AV) (o:Nat):fF Tryz.prog 4 cs o=cs[o]?:=by
 have:fL Tryz.prog 4=some (false,1):=by kernel_rfl
 simp only[fF,this]
theorem lk4:sN Tryz.prog 4=some 1:=by kernel_rfl
theorem ze4:eF Tryz.prog 4=some [.bool false]:=by kernel_rfl
theorem be4 (a b:Bool):gA Tryz.prog .eql 4 (.v (.bool a)) (.v (.bool b))=some (.v (.bool (a == b))):=by
 have:Tryz.prog.underlying 4=some .bool:=by kernel_rfl
 simp only[gA,this]
theorem bn4 (a b:Bool):gA Tryz.prog .neq 4 (.v (.bool a)) (.v (.bool b))=some (.v (.bool (!(a == b)))):=by
 have:Tryz.prog.underlying 4=some .bool:=by kernel_rfl
 simp only[gA,this]
theorem aRz (cs:List AV) (o:Nat) (h:32≤cs.length-o):fF Tryz.prog 27 cs o=some (.agg (rd cs o 32)):=by
 have:fL Tryz.prog 27=some (true,32):=by kernel_rfl
 simp[fF,this,h]
theorem aJJ:sN Tryz.prog 27=some 32:=by kernel_rfl
theorem aL3:eF Tryz.prog 27=some tL:=by kernel_rfl
theorem aGr (a b:bX):vJ Tryz.prog 27 (aY a) (aY b)=some (decide (a=b)):=rR (l:=Hq) (by kernel_rfl) (by kernel_rfl) (by kernel_rfl) (mU a b) (pJ a b)
theorem aRA (a b:bX):gA Tryz.prog .eql 27 (.agg (aY a)) (.agg (aY b))=some (.v (.bool (decide (a=b)))):=by simp only[gA,aGr,Option.map_some]
theorem aRB (a b:bX):gA Tryz.prog .neq 27 (.agg (aY a)) (.agg (aY b))=some (.v (.bool (!(decide (a=b))))):=by simp only[gA,aGr,Option.map_some]
theorem aFg:jE Tryz.prog 27=some (32,1):=by kernel_rfl
theorem aRC (st:St) (parts:List (Nat × Operand)):iN Tryz.prog st 27 parts=if (parts.all fun p=>(st.ev p.2).jI)=true then (gJ (fun i=>some (i * 1,1)) (aY dT) (parts.map fun p=>(p.1,st.ev p.2))).map .agg else none:=gV (z:=tL) (by kernel_rfl) jG (Tf (by kernel_rfl))
theorem aRD (cs:List AV) (o:Nat) (h:4≤cs.length-o):fF Tryz.prog 33 cs o=some (.agg (rd cs o 4)):=by
 have:fL Tryz.prog 33=some (true,4):=by kernel_rfl
 simp[fF,this,h]
theorem aRE:sN Tryz.prog 33=some 4:=by kernel_rfl
theorem aRF:eF Tryz.prog 33=some Yl:=by kernel_rfl
theorem aL4 (a b:qP):vJ Tryz.prog 33 (fY a) (fY b)=some (decide (a=b)):=rR (l:=YP) (by kernel_rfl) (by kernel_rfl) (by kernel_rfl) (Lq a b) (Rf a b)
theorem aRG (a b:qP):gA Tryz.prog .neq 33 (.agg (fY a)) (.agg (fY b))=some (.v (.bool (!(decide (a=b))))):=by simp only[gA,aL4,Option.map_some]
theorem aJr:jE Tryz.prog 33=some (4,1):=by kernel_rfl
theorem aRH (st:St) (parts:List (Nat × Operand)):iN Tryz.prog st 33 parts=if (parts.all fun p=>(st.ev p.2).jI)=true then (gJ (fun i=>some (i * 1,1)) (fY ES) (parts.map fun p=>(p.1,st.ev p.2))).map .agg else none:=gV (z:=Yl) (by kernel_rfl) jH (Tf (by kernel_rfl))
theorem aRI (cs:List AV) (o:Nat) (h:33≤cs.length-o):fF Tryz.prog 41 cs o=some (.agg (rd cs o 33)):=by
 have:fL Tryz.prog 41=some (true,33):=by kernel_rfl
 simp[fF,this,h]
theorem aRJ:sN Tryz.prog 41=some 33:=by kernel_rfl
theorem aGs:aV Tryz.prog 41 0=some 0:=by kernel_rfl
theorem aGt:aV Tryz.prog 41 1=some 1:=by kernel_rfl
theorem aJI:eF Tryz.prog 41=some Cf:=by kernel_rfl
theorem aGu (a b:fB):vJ Tryz.prog 41 (bV a) (bV b)=some (decide (a=b)):=rR (l:=Th) (by kernel_rfl) (by kernel_rfl) (by kernel_rfl) (sH a b) (mF a b)
theorem aRK (a b:fB):gA Tryz.prog .eql 41 (.agg (bV a)) (.agg (bV b))=some (.v (.bool (decide (a=b)))):=by simp only[gA,aGu,Option.map_some]
theorem aRL (a b:fB):gA Tryz.prog .neq 41 (.agg (bV a)) (.agg (bV b))=some (.v (.bool (!(decide (a=b))))):=by simp only[gA,aGu,Option.map_some]
theorem aRM (st:St) (parts:List (Nat × Operand)):iN Tryz.prog st 41 parts=if (parts.all fun p=>(st.ev p.2).jI)=true then (gJ (fun i=>([(0,1),(1,32)]:List (Nat × Nat))[i]?) (bV iB) (parts.map fun p=>(p.1,st.ev p.2))).map .agg else none:=gV (z:=Cf) (by kernel_rfl) Ai (eT (by kernel_rfl))
theorem aRN (cs:List AV) (o:Nat) (h:66≤cs.length-o):fF Tryz.prog 72 cs o=some (.agg (rd cs o 66)):=by
 have:fL Tryz.prog 72=some (true,66):=by kernel_rfl
 simp[fF,this,h]
theorem aRO:sN Tryz.prog 72=some 66:=by kernel_rfl
theorem aGv:aV Tryz.prog 72 0=some 0:=by kernel_rfl
theorem aGw:aV Tryz.prog 72 1=some 33:=by kernel_rfl
theorem aRP:eF Tryz.prog 72=some Ow:=by kernel_rfl
theorem aRQ (st:St) (parts:List (Nat × Operand)):iN Tryz.prog st 72 parts=if (parts.all fun p=>(st.ev p.2).jI)=true then (gJ (fun i=>([(0,33),(33,33)]:List (Nat × Nat))[i]?) (fD Nd) (parts.map fun p=>(p.1,st.ev p.2))).map .agg else none:=gV (z:=Ow) (by kernel_rfl) Rh (eT (by kernel_rfl))
theorem aRR (cs:List AV) (o:Nat) (h:238≤cs.length-o):fF Tryz.prog 74 cs o=some (.agg (rd cs o 238)):=by
 have:fL Tryz.prog 74=some (true,238):=by kernel_rfl
 simp[fF,this,h]
theorem TM:sN Tryz.prog 74=some 238:=by kernel_rfl
theorem aGx:aV Tryz.prog 74 0=some 0:=by kernel_rfl
theorem aGy:aV Tryz.prog 74 1=some 66:=by kernel_rfl
theorem aGz:aV Tryz.prog 74 2=some 67:=by kernel_rfl
theorem aGA:aV Tryz.prog 74 3=some 99:=by kernel_rfl
theorem aGB:aV Tryz.prog 74 4=some 131:=by kernel_rfl
theorem aGC:aV Tryz.prog 74 5=some 163:=by kernel_rfl
theorem aGD:aV Tryz.prog 74 6=some 167:=by kernel_rfl
theorem aGE:aV Tryz.prog 74 7=some 171:=by kernel_rfl
theorem aGF:aV Tryz.prog 74 8=some 204:=by kernel_rfl
theorem aGG:aV Tryz.prog 74 9=some 237:=by kernel_rfl
theorem aGH:eF Tryz.prog 74=some Rk:=by kernel_rfl
theorem aGI (a b:Block):vJ Tryz.prog 74 (aU a) (aU b)=some (decide (a=b)):=rR (l:=VI) (by kernel_rfl) (by kernel_rfl) (by kernel_rfl) (Ti a b) (Yo a b)
theorem aRS (a b:Block):gA Tryz.prog .eql 74 (.agg (aU a)) (.agg (aU b))=some (.v (.bool (decide (a=b)))):=by simp only[gA,aGI,Option.map_some]
theorem aRT (a b:Block):gA Tryz.prog .neq 74 (.agg (aU a)) (.agg (aU b))=some (.v (.bool (!(decide (a=b))))):=by simp only[gA,aGI,Option.map_some]
theorem aRU (st:St) (parts:List (Nat × Operand)):iN Tryz.prog st 74 parts=if (parts.all fun p=>(st.ev p.2).jI)=true then (gJ (fun i=>([(0,66),(66,1),(67,32),(99,32),(131,32),(163,4),(167,4),(171,33),(204,33),(237,1)]:List (Nat × Nat))[i]?) (aU fM) (parts.map fun p=>(p.1,st.ev p.2))).map .agg else none:=gV (z:=Rk) (by kernel_rfl) Oz (eT (by kernel_rfl))
theorem aRV (cs:List AV) (o:Nat) (h:240≤cs.length-o):fF Tryz.prog 76 cs o=some (.agg (rd cs o 240)):=by
 have:fL Tryz.prog 76=some (true,240):=by kernel_rfl
 simp[fF,this,h]
theorem aRW:sN Tryz.prog 76=some 240:=by kernel_rfl
theorem aGJ:aV Tryz.prog 76 0=some 0:=by kernel_rfl
theorem aGK:aV Tryz.prog 76 1=some 238:=by kernel_rfl
theorem aGL:aV Tryz.prog 76 2=some 239:=by kernel_rfl
theorem aGM:eF Tryz.prog 76=some Yp:=by kernel_rfl
theorem aL5 (a b:Node):vJ Tryz.prog 76 (eX a) (eX b)=some (decide (a=b)):=rR (l:=aEL) (by kernel_rfl) (by kernel_rfl) (by kernel_rfl) (Vt a b) (C7 a b)
theorem aRX (a b:Node):gA Tryz.prog .neq 76 (.agg (eX a)) (.agg (eX b))=some (.v (.bool (!(decide (a=b))))):=by simp only[gA,aL5,Option.map_some]
theorem aRY (st:St) (parts:List (Nat × Operand)):iN Tryz.prog st 76 parts=if (parts.all fun p=>(st.ev p.2).jI)=true then (gJ (fun i=>([(0,238),(238,1),(239,1)]:List (Nat × Nat))[i]?) (eX YS) (parts.map fun p=>(p.1,st.ev p.2))).map .agg else none:=gV (z:=Yp) (by kernel_rfl) IC (eT (by kernel_rfl))
theorem aRZ (cs:List AV) (o:Nat) (h:1≤cs.length-o):fF Tryz.prog 50 cs o=some (.agg (rd cs o 1)):=by
 have:fL Tryz.prog 50=some (true,1):=by kernel_rfl
 simp[fF,this,h]
theorem aR0:sN Tryz.prog 50=some 1:=by kernel_rfl
theorem aGN:aV Tryz.prog 50 0=some 0:=by kernel_rfl
theorem aR1:eF Tryz.prog 50=some [.slice none 0 0]:=by kernel_rfl
theorem aR2 (st:St) (parts:List (Nat × Operand)):iN Tryz.prog st 50 parts=if (parts.all fun p=>(st.ev p.2).jI)=true then (gJ (fun i=>([(0,1)]:List (Nat × Nat))[i]?) [.v (.slice none 0 0)] (parts.map fun p=>(p.1,st.ev p.2))).map .agg else none:=gV (z:=[.slice none 0 0]) (by kernel_rfl) rfl (eT (by kernel_rfl))
theorem aR3:sN Tryz.prog 25=some 1:=by kernel_rfl
theorem aGO:aV Tryz.prog 25 0=some 0:=by kernel_rfl
theorem aR4:eF Tryz.prog 25=some Jg:=by kernel_rfl
theorem aR5 (st:St) (parts:List (Nat × Operand)):iN Tryz.prog st 25 parts=if (parts.all fun p=>(st.ev p.2).jI)=true then (gJ (fun i=>([(0,1)]:List (Nat × Nat))[i]?) (mA Vb) (parts.map fun p=>(p.1,st.ev p.2))).map .agg else none:=gV (z:=Jg) (by kernel_rfl) Jh (eT (by kernel_rfl))
theorem aR6 (cs:List AV) (o:Nat) (h:34≤cs.length-o):fF Tryz.prog 29 cs o=some (.agg (rd cs o 34)):=by
 have:fL Tryz.prog 29=some (true,34):=by kernel_rfl
 simp[fF,this,h]
theorem aR7:sN Tryz.prog 29=some 34:=by kernel_rfl
theorem aGP:aV Tryz.prog 29 0=some 0:=by kernel_rfl
theorem aGQ:aV Tryz.prog 29 1=some 1:=by kernel_rfl
theorem aGR:aV Tryz.prog 29 2=some 2:=by kernel_rfl
theorem aR8:eF Tryz.prog 29=some Hu:=by kernel_rfl
theorem aL6 (a b:gN):vJ Tryz.prog 29 (dG a) (dG b)=some (decide (a=b)):=rR (l:=PS) (by kernel_rfl) (by kernel_rfl) (by kernel_rfl) (BW a b) (IJ a b)
theorem aR9 (a b:gN):gA Tryz.prog .eql 29 (.agg (dG a)) (.agg (dG b))=some (.v (.bool (decide (a=b)))):=by simp only[gA,aL6,Option.map_some]
theorem aSa (st:St) (parts:List (Nat × Operand)):iN Tryz.prog st 29 parts=if (parts.all fun p=>(st.ev p.2).jI)=true then (gJ (fun i=>([(0,1),(1,1),(2,32)]:List (Nat × Nat))[i]?) (dG Ys) (parts.map fun p=>(p.1,st.ev p.2))).map .agg else none:=gV (z:=Hu) (by kernel_rfl) Lv (eT (by kernel_rfl))
theorem aSb (cs:List AV) (o:Nat) (h:6≤cs.length-o):fF Tryz.prog 31 cs o=some (.agg (rd cs o 6)):=by
 have:fL Tryz.prog 31=some (true,6):=by kernel_rfl
 simp[fF,this,h]
theorem aSc:sN Tryz.prog 31=some 6:=by kernel_rfl
theorem aGS:aV Tryz.prog 31 0=some 0:=by kernel_rfl
theorem aGT:aV Tryz.prog 31 1=some 1:=by kernel_rfl
theorem aGU:aV Tryz.prog 31 2=some 2:=by kernel_rfl
theorem aGV:aV Tryz.prog 31 3=some 3:=by kernel_rfl
theorem aGW:aV Tryz.prog 31 4=some 4:=by kernel_rfl
theorem aGX:aV Tryz.prog 31 5=some 5:=by kernel_rfl
theorem aSd:eF Tryz.prog 31=some Ph:=by kernel_rfl
theorem aL7 (a b:lI):vJ Tryz.prog 31 (fK a) (fK b)=some (decide (a=b)):=rR (l:=YX) (by kernel_rfl) (by kernel_rfl) (by kernel_rfl) (IL a b) (PT a b)
theorem aSe (a b:lI):gA Tryz.prog .neq 31 (.agg (fK a)) (.agg (fK b))=some (.v (.bool (!(decide (a=b))))):=by simp only[gA,aL7,Option.map_some]
theorem aSf (st:St) (parts:List (Nat × Operand)):iN Tryz.prog st 31 parts=if (parts.all fun p=>(st.ev p.2).jI)=true then (gJ (fun i=>([(0,1),(1,1),(2,1),(3,1),(4,1),(5,1)]:List (Nat × Nat))[i]?) (fK IK) (parts.map fun p=>(p.1,st.ev p.2))).map .agg else none:=gV (z:=Ph) (by kernel_rfl) Rq (eT (by kernel_rfl))
theorem aSg (cs:List AV) (o:Nat) (h:45≤cs.length-o):fF Tryz.prog 36 cs o=some (.agg (rd cs o 45)):=by
 have:fL Tryz.prog 36=some (true,45):=by kernel_rfl
 simp[fF,this,h]
theorem aSh:sN Tryz.prog 36=some 45:=by kernel_rfl
theorem aGY:aV Tryz.prog 36 0=some 0:=by kernel_rfl
theorem aGZ:aV Tryz.prog 36 1=some 6:=by kernel_rfl
theorem aG0:aV Tryz.prog 36 2=some 7:=by kernel_rfl
theorem aG1:aV Tryz.prog 36 3=some 8:=by kernel_rfl
theorem aG2:aV Tryz.prog 36 4=some 12:=by kernel_rfl
theorem aG3:aV Tryz.prog 36 5=some 44:=by kernel_rfl
theorem aSi:eF Tryz.prog 36=some Pm:=by kernel_rfl
theorem aSj (st:St) (parts:List (Nat × Operand)):iN Tryz.prog st 36 parts=if (parts.all fun p=>(st.ev p.2).jI)=true then (gJ (fun i=>([(0,6),(6,1),(7,1),(8,4),(12,32),(44,1)]:List (Nat × Nat))[i]?) (bQ nC) (parts.map fun p=>(p.1,st.ev p.2))).map .agg else none:=gV (z:=Pm) (by kernel_rfl) Rs (eT (by kernel_rfl))
theorem aL8 (cs:List AV) (o:Nat) (h:34≤cs.length-o):fF Tryz.prog 100 cs o=some (.agg (rd cs o 34)):=by
 have:fL Tryz.prog 100=some (true,34):=by kernel_rfl
 simp[fF,this,h]
theorem J9:sN Tryz.prog 100=some 34:=by kernel_rfl
theorem aCU:aV Tryz.prog 100 0=some 0:=by kernel_rfl
theorem aCV:aV Tryz.prog 100 1=some 1:=by kernel_rfl
theorem aCW:aV Tryz.prog 100 2=some 2:=by kernel_rfl
theorem aEP:eF Tryz.prog 100=some YY:=by kernel_rfl
theorem aEQ (a b:iV):vJ Tryz.prog 100 (jC a) (jC b)=some (decide (a=b)):=rR (l:=aEN) (by kernel_rfl) (by kernel_rfl) (by kernel_rfl) (VV a b) (D5 a b)
theorem aL9 (a b:iV):gA Tryz.prog .neq 100 (.agg (jC a)) (.agg (jC b))=some (.v (.bool (!(decide (a=b))))):=by simp only[gA,aEQ,Option.map_some]
theorem aMa (st:St) (parts:List (Nat × Operand)):iN Tryz.prog st 100 parts=if (parts.all fun p=>(st.ev p.2).jI)=true then (gJ (fun i=>([(0,1),(1,1),(2,32)]:List (Nat × Nat))[i]?) (jC gI) (parts.map fun p=>(p.1,st.ev p.2))).map .agg else none:=gV (z:=YY) (by kernel_rfl) YZ (eT (by kernel_rfl))
theorem aSk (cs:List AV) (o:Nat) (h:67≤cs.length-o):fF Tryz.prog 87 cs o=some (.agg (rd cs o 67)):=by
 have:fL Tryz.prog 87=some (true,67):=by kernel_rfl
 simp[fF,this,h]
theorem aSl:sN Tryz.prog 87=some 67:=by kernel_rfl
theorem aG4:aV Tryz.prog 87 0=some 0:=by kernel_rfl
theorem aG5:aV Tryz.prog 87 1=some 1:=by kernel_rfl
theorem aG6:aV Tryz.prog 87 2=some 33:=by kernel_rfl
theorem aG7:aV Tryz.prog 87 3=some 66:=by kernel_rfl
theorem aMb:eF Tryz.prog 87=some D6:=by kernel_rfl
theorem aSm (st:St) (parts:List (Nat × Operand)):iN Tryz.prog st 87 parts=if (parts.all fun p=>(st.ev p.2).jI)=true then (gJ (fun i=>([(0,1),(1,32),(33,33),(66,1)]:List (Nat × Nat))[i]?) (eH Hc) (parts.map fun p=>(p.1,st.ev p.2))).map .agg else none:=gV (z:=D6) (by kernel_rfl) VW (eT (by kernel_rfl))
theorem aMc (cs:List AV) (o:Nat) (h:35≤cs.length-o):fF Tryz.prog 186 cs o=some (.agg (rd cs o 35)):=by
 have:fL Tryz.prog 186=some (true,35):=by kernel_rfl
 simp[fF,this,h]
theorem aMd:sN Tryz.prog 186=some 35:=by kernel_rfl
theorem aCX:aV Tryz.prog 186 0=some 0:=by kernel_rfl
theorem aCY:aV Tryz.prog 186 1=some 1:=by kernel_rfl
theorem aCZ:aV Tryz.prog 186 2=some 2:=by kernel_rfl
theorem aC0:aV Tryz.prog 186 3=some 34:=by kernel_rfl
theorem aMe:eF Tryz.prog 186=some Rt:=by kernel_rfl
theorem aMf (st:St) (parts:List (Nat × Operand)):iN Tryz.prog st 186 parts=if (parts.all fun p=>(st.ev p.2).jI)=true then (gJ (fun i=>([(0,1),(1,1),(2,32),(34,1)]:List (Nat × Nat))[i]?) (gM IS) (parts.map fun p=>(p.1,st.ev p.2))).map .agg else none:=gV (z:=Rt) (by kernel_rfl) Yw (eT (by kernel_rfl))
theorem aMg (cs:List AV) (o:Nat) (h:70≤cs.length-o):fF Tryz.prog 188 cs o=some (.agg (rd cs o 70)):=by
 have:fL Tryz.prog 188=some (true,70):=by kernel_rfl
 simp[fF,this,h]
theorem aMh:sN Tryz.prog 188=some 70:=by kernel_rfl
theorem aC1:aV Tryz.prog 188 0=some 0:=by kernel_rfl
theorem aC2:aV Tryz.prog 188 1=some 35:=by kernel_rfl
theorem aMi:eF Tryz.prog 188=some Db:=by kernel_rfl
theorem aMj (st:St) (parts:List (Nat × Operand)):iN Tryz.prog st 188 parts=if (parts.all fun p=>(st.ev p.2).jI)=true then (gJ (fun i=>([(0,35),(35,35)]:List (Nat × Nat))[i]?) (bT Ru) (parts.map fun p=>(p.1,st.ev p.2))).map .agg else none:=gV (z:=Db) (by kernel_rfl) Hx (eT (by kernel_rfl))
theorem aMk (cs:List AV) (o:Nat) (h:34≤cs.length-o):fF Tryz.prog 118 cs o=some (.agg (rd cs o 34)):=by
 have:fL Tryz.prog 118=some (true,34):=by kernel_rfl
 simp[fF,this,h]
theorem aMl:sN Tryz.prog 118=some 34:=by kernel_rfl
theorem aC3:aV Tryz.prog 118 0=some 0:=by kernel_rfl
theorem aC4:aV Tryz.prog 118 1=some 33:=by kernel_rfl
theorem aER:eF Tryz.prog 118=some Yx:=by kernel_rfl
theorem aMm (st:St) (parts:List (Nat × Operand)):iN Tryz.prog st 118 parts=if (parts.all fun p=>(st.ev p.2).jI)=true then (gJ (fun i=>([(0,33),(33,1)]:List (Nat × Nat))[i]?) (bZ iT) (parts.map fun p=>(p.1,st.ev p.2))).map .agg else none:=gV (z:=Yx) (by kernel_rfl) Yy (eT (by kernel_rfl))
theorem aSn (cs:List AV) (o:Nat) (h:35≤cs.length-o):fF Tryz.prog 63 cs o=some (.agg (rd cs o 35)):=by
 have:fL Tryz.prog 63=some (true,35):=by kernel_rfl
 simp[fF,this,h]
theorem aFJ:sN Tryz.prog 63=some 35:=by kernel_rfl
theorem aG8:aV Tryz.prog 63 0=some 0:=by kernel_rfl
theorem aG9:aV Tryz.prog 63 1=some 1:=by kernel_rfl
theorem aHa:aV Tryz.prog 63 2=some 33:=by kernel_rfl
theorem aHb:aV Tryz.prog 63 3=some 34:=by kernel_rfl
theorem aMn:eF Tryz.prog 63=some Ps:=by kernel_rfl
theorem aSo (st:St) (parts:List (Nat × Operand)):iN Tryz.prog st 63 parts=if (parts.all fun p=>(st.ev p.2).jI)=true then (gJ (fun i=>([(0,1),(1,32),(33,1),(34,1)]:List (Nat × Nat))[i]?) (cX cP) (parts.map fun p=>(p.1,st.ev p.2))).map .agg else none:=gV (z:=Ps) (by kernel_rfl) Za (eT (by kernel_rfl))
theorem aSp (cs:List AV) (o:Nat) (h:96≤cs.length-o):fF Tryz.prog 56 cs o=some (.agg (rd cs o 96)):=by
 have:fL Tryz.prog 56=some (true,96):=by kernel_rfl
 simp[fF,this,h]
theorem aSq:sN Tryz.prog 56=some 96:=by kernel_rfl
theorem aHc:aV Tryz.prog 56 0=some 0:=by kernel_rfl
theorem aHd:aV Tryz.prog 56 1=some 32:=by kernel_rfl
theorem aHe:aV Tryz.prog 56 2=some 64:=by kernel_rfl
theorem aMo:eF Tryz.prog 56=some Hy:=by kernel_rfl
theorem aMp (a b:Command):vJ Tryz.prog 56 (eI a) (eI b)=some (decide (a=b)):=rR (l:=QD) (by kernel_rfl) (by kernel_rfl) (by kernel_rfl) (CI a b) (IW a b)
theorem aSr (a b:Command):gA Tryz.prog .eql 56 (.agg (eI a)) (.agg (eI b))=some (.v (.bool (decide (a=b)))):=by simp only[gA,aMp,Option.map_some]
theorem aSs (st:St) (parts:List (Nat × Operand)):iN Tryz.prog st 56 parts=if (parts.all fun p=>(st.ev p.2).jI)=true then (gJ (fun i=>([(0,32),(32,32),(64,32)]:List (Nat × Nat))[i]?) (eI Ze) (parts.map fun p=>(p.1,st.ev p.2))).map .agg else none:=gV (z:=Hy) (by kernel_rfl) Mb (eT (by kernel_rfl))
theorem aSt (cs:List AV) (o:Nat) (h:2≤cs.length-o):fF Tryz.prog 39 cs o=some (.agg (rd cs o 2)):=by
 have:fL Tryz.prog 39=some (true,2):=by kernel_rfl
 simp[fF,this,h]
theorem aSu:sN Tryz.prog 39=some 2:=by kernel_rfl
theorem aHf:aV Tryz.prog 39 0=some 0:=by kernel_rfl
theorem aHg:aV Tryz.prog 39 1=some 1:=by kernel_rfl
theorem aSv:eF Tryz.prog 39=some Zh:=by kernel_rfl
theorem aSw (st:St) (parts:List (Nat × Operand)):iN Tryz.prog st 39 parts=if (parts.all fun p=>(st.ev p.2).jI)=true then (gJ (fun i=>([(0,1),(1,1)]:List (Nat × Nat))[i]?) (eW Kz) (parts.map fun p=>(p.1,st.ev p.2))).map .agg else none:=gV (z:=Zh) (by kernel_rfl) Zi (eT (by kernel_rfl))
theorem aSx (cs:List AV) (o:Nat) (h:66≤cs.length-o):fF Tryz.prog 43 cs o=some (.agg (rd cs o 66)):=by
 have:fL Tryz.prog 43=some (true,66):=by kernel_rfl
 simp[fF,this,h]
theorem aSy:sN Tryz.prog 43=some 66:=by kernel_rfl
theorem aHh:aV Tryz.prog 43 0=some 0:=by kernel_rfl
theorem aHi:aV Tryz.prog 43 1=some 33:=by kernel_rfl
theorem aSz:eF Tryz.prog 43=some De:=by kernel_rfl
theorem aMq (a b:jZ):vJ Tryz.prog 43 (eP a) (eP b)=some (decide (a=b)):=rR (l:=EU) (by kernel_rfl) (by kernel_rfl) (by kernel_rfl) (Zj a b) (CJ a b)
theorem aSA (a b:jZ):gA Tryz.prog .neq 43 (.agg (eP a)) (.agg (eP b))=some (.v (.bool (!(decide (a=b))))):=by simp only[gA,aMq,Option.map_some]
theorem aSB (st:St) (parts:List (Nat × Operand)):iN Tryz.prog st 43 parts=if (parts.all fun p=>(st.ev p.2).jI)=true then (gJ (fun i=>([(0,33),(33,33)]:List (Nat × Nat))[i]?) (eP Rz) (parts.map fun p=>(p.1,st.ev p.2))).map .agg else none:=gV (z:=De) (by kernel_rfl) Ia (eT (by kernel_rfl))
theorem aSC:sN Tryz.prog 47=some 2:=by kernel_rfl
theorem aHj:aV Tryz.prog 47 0=some 0:=by kernel_rfl
theorem aHk:aV Tryz.prog 47 1=some 1:=by kernel_rfl
theorem aSD:eF Tryz.prog 47=some Vc:=by kernel_rfl
theorem aSE (cs:List AV) (o:Nat) (h:150≤cs.length-o):fF Tryz.prog 53 cs o=some (.agg (rd cs o 150)):=by
 have:fL Tryz.prog 53=some (true,150):=by kernel_rfl
 simp[fF,this,h]
theorem aSF:sN Tryz.prog 53=some 150:=by kernel_rfl
theorem aHl:aV Tryz.prog 53 0=some 0:=by kernel_rfl
theorem aHm:aV Tryz.prog 53 1=some 45:=by kernel_rfl
theorem aHn:aV Tryz.prog 53 2=some 47:=by kernel_rfl
theorem aHo:aV Tryz.prog 53 3=some 113:=by kernel_rfl
theorem aHp:aV Tryz.prog 53 4=some 115:=by kernel_rfl
theorem aHq:aV Tryz.prog 53 5=some 116:=by kernel_rfl
theorem aHr:aV Tryz.prog 53 6=some 117:=by kernel_rfl
theorem aHs:aV Tryz.prog 53 7=some 149:=by kernel_rfl
theorem aSG:eF Tryz.prog 53=some Zm:=by kernel_rfl
theorem aSH (st:St) (parts:List (Nat × Operand)):iN Tryz.prog st 53 parts=if (parts.all fun p=>(st.ev p.2).jI)=true then (gJ (fun i=>([(0,45),(45,2),(47,66),(113,2),(115,1),(116,1),(117,32),(149,1)]:List (Nat × Nat))[i]?) (aA gC) (parts.map fun p=>(p.1,st.ev p.2))).map .agg else none:=gV (z:=Zm) (by kernel_rfl) Zn (eT (by kernel_rfl))
theorem aSI (cs:List AV) (o:Nat) (h:252≤cs.length-o):fF Tryz.prog 58 cs o=some (.agg (rd cs o 252)):=by
 have:fL Tryz.prog 58=some (true,252):=by kernel_rfl
 simp[fF,this,h]
theorem aSJ:sN Tryz.prog 58=some 252:=by kernel_rfl
theorem aHt:aV Tryz.prog 58 0=some 0:=by kernel_rfl
theorem aHu:aV Tryz.prog 58 1=some 150:=by kernel_rfl
theorem aHv:aV Tryz.prog 58 2=some 151:=by kernel_rfl
theorem aHw:aV Tryz.prog 58 3=some 152:=by kernel_rfl
theorem aHx:aV Tryz.prog 58 4=some 153:=by kernel_rfl
theorem aHy:aV Tryz.prog 58 5=some 154:=by kernel_rfl
theorem aHz:aV Tryz.prog 58 6=some 250:=by kernel_rfl
theorem aHA:aV Tryz.prog 58 7=some 251:=by kernel_rfl
theorem aSK:eF Tryz.prog 58=some JC:=by kernel_rfl
theorem aSL (st:St) (parts:List (Nat × Operand)):iN Tryz.prog st 58 parts=if (parts.all fun p=>(st.ev p.2).jI)=true then (gJ (fun i=>([(0,150),(150,1),(151,1),(152,1),(153,1),(154,96),(250,1),(251,1)]:List (Nat × Nat))[i]?) (aP lH) (parts.map fun p=>(p.1,st.ev p.2))).map .agg else none:=gV (z:=JC) (by kernel_rfl) QF (eT (by kernel_rfl))
theorem aMr (cs:List AV) (o:Nat) (h:446≤cs.length-o):fF Tryz.prog 190 cs o=some (.agg (rd cs o 446)):=by
 have:fL Tryz.prog 190=some (true,446):=by kernel_rfl
 simp[fF,this,h]
theorem aMs:sN Tryz.prog 190=some 446:=by kernel_rfl
theorem aC5:aV Tryz.prog 190 0=some 0:=by kernel_rfl
theorem aC6:aV Tryz.prog 190 1=some 1:=by kernel_rfl
theorem aC7:aV Tryz.prog 190 2=some 239:=by kernel_rfl
theorem aC8:aV Tryz.prog 190 3=some 306:=by kernel_rfl
theorem aC9:aV Tryz.prog 190 4=some 376:=by kernel_rfl
theorem aDa:aV Tryz.prog 190 5=some 410:=by kernel_rfl
theorem aDb:aV Tryz.prog 190 6=some 444:=by kernel_rfl
theorem aDc:aV Tryz.prog 190 7=some 445:=by kernel_rfl
theorem aES:eF Tryz.prog 190=some aCT:=by kernel_rfl
theorem aMt (st:St) (parts:List (Nat × Operand)):iN Tryz.prog st 190 parts=if (parts.all fun p=>(st.ev p.2).jI)=true then (gJ (fun i=>([(0,1),(1,238),(239,67),(306,70),(376,34),(410,34),(444,1),(445,1)]:List (Nat × Nat))[i]?) (kI yU) (parts.map fun p=>(p.1,st.ev p.2))).map .agg else none:=gV (z:=aCT) (by kernel_rfl) aAe (eT (by kernel_rfl))
theorem aHB (cs:List AV) (h:150≤cs.length):wI Tryz.prog 58 0 (.agg cs)=some (.agg (rd cs 0 150)):=Yj (by kernel_rfl) h
theorem aHC (cs:List AV) (h:47≤cs.length):wI Tryz.prog 53 1 (.agg cs)=some (.agg (rd cs 45 2)):=Yj (by kernel_rfl) h
theorem aHD (cs:List AV):wI Tryz.prog 39 0 (.agg cs)=cs[0]?:=Yk (k:=1) (by kernel_rfl)
theorem aHE (cs:List AV):wI Tryz.prog 41 0 (.agg cs)=cs[0]?:=Yk (k:=1) (by kernel_rfl)
theorem Kq:dQ Tryz.prog 22=some (3,1,8):=by kernel_rfl
theorem aDd:jE Tryz.prog 22=none:=by kernel_rfl
theorem aSM (cs:List AV) (o:Nat):fF Tryz.prog 22 cs o=cs[o]?:=by
 have:fL Tryz.prog 22=some (false,1):=by kernel_rfl
 simp only[fF,this]
theorem aSN:sN Tryz.prog 22=some 1:=by kernel_rfl
theorem aSO:eF Tryz.prog 22=some [.slice none 0 0]:=by kernel_rfl
theorem aSP (n:Nat) (cs:List AV) (h:cs≠[]):gA Tryz.prog .eql 22 (.sl n cs) (.v (.slice none 0 0))=some (.v (.bool false)):=by
 have:Tryz.prog.underlying 22=some (.slice 3):=by kernel_rfl
 cases cs with
 | nil=>exact absurd rfl h
 | cons c cs=>simp[gA,uF,this]
theorem aSQ:gA Tryz.prog .eql 22 (.v (.slice none 0 0)) (.v (.slice none 0 0))=some (.v (.bool true)):=by
 have:Tryz.prog.underlying 22=some (.slice 3):=by kernel_rfl
 simp[gA,uF,this]
theorem WI:dQ Tryz.prog 34=some (23,1,8):=by kernel_rfl
theorem aHF:jE Tryz.prog 34=none:=by kernel_rfl
theorem aSR (cs:List AV) (o:Nat):fF Tryz.prog 34 cs o=cs[o]?:=by
 have:fL Tryz.prog 34=some (false,1):=by kernel_rfl
 simp only[fF,this]
theorem aSS:sN Tryz.prog 34=some 1:=by kernel_rfl
theorem aST:eF Tryz.prog 34=some [.slice none 0 0]:=by kernel_rfl
theorem aSU (n:Nat) (cs:List AV) (h:cs≠[]):gA Tryz.prog .eql 34 (.sl n cs) (.v (.slice none 0 0))=some (.v (.bool false)):=by
 have:Tryz.prog.underlying 34=some (.slice 23):=by kernel_rfl
 cases cs with
 | nil=>exact absurd rfl h
 | cons c cs=>simp[gA,uF,this]
theorem aSV:gA Tryz.prog .eql 34 (.v (.slice none 0 0)) (.v (.slice none 0 0))=some (.v (.bool true)):=by
 have:Tryz.prog.underlying 34=some (.slice 23):=by kernel_rfl
 simp[gA,uF,this]
theorem D9:dQ Tryz.prog 37=some (100,34,48):=by kernel_rfl
theorem aHG:jE Tryz.prog 37=none:=by kernel_rfl
theorem aSW (cs:List AV) (o:Nat):fF Tryz.prog 37 cs o=cs[o]?:=by
 have:fL Tryz.prog 37=some (false,1):=by kernel_rfl
 simp only[fF,this]
theorem aSX:sN Tryz.prog 37=some 1:=by kernel_rfl
theorem aSY:eF Tryz.prog 37=some [.slice none 0 0]:=by kernel_rfl
theorem aSZ (n:Nat) (cs:List AV) (h:cs≠[]):gA Tryz.prog .eql 37 (.sl n cs) (.v (.slice none 0 0))=some (.v (.bool false)):=by
 have:Tryz.prog.underlying 37=some (.slice 100):=by kernel_rfl
 cases cs with
 | nil=>exact absurd rfl h
 | cons c cs=>simp[gA,uF,this]
theorem aS0:gA Tryz.prog .eql 37 (.v (.slice none 0 0)) (.v (.slice none 0 0))=some (.v (.bool true)):=by
 have:Tryz.prog.underlying 37=some (.slice 100):=by kernel_rfl
 simp[gA,uF,this]
theorem aAf:dQ Tryz.prog 44=some (87,67,104):=by kernel_rfl
theorem aMu:jE Tryz.prog 44=none:=by kernel_rfl
theorem aS1 (cs:List AV) (o:Nat):fF Tryz.prog 44 cs o=cs[o]?:=by
 have:fL Tryz.prog 44=some (false,1):=by kernel_rfl
 simp only[fF,this]
theorem aS2:sN Tryz.prog 44=some 1:=by kernel_rfl
theorem aS3:eF Tryz.prog 44=some [.slice none 0 0]:=by kernel_rfl
theorem oF:dQ Tryz.prog 45=some (74,238,336):=by kernel_rfl
theorem aHH:jE Tryz.prog 45=none:=by kernel_rfl
theorem aS4 (cs:List AV) (o:Nat):fF Tryz.prog 45 cs o=cs[o]?:=by
 have:fL Tryz.prog 45=some (false,1):=by kernel_rfl
 simp only[fF,this]
theorem aS5:sN Tryz.prog 45=some 1:=by kernel_rfl
theorem aS6:eF Tryz.prog 45=some [.slice none 0 0]:=by kernel_rfl
theorem aS7 (n:Nat) (cs:List AV) (h:cs≠[]):gA Tryz.prog .eql 45 (.sl n cs) (.v (.slice none 0 0))=some (.v (.bool false)):=by
 have:Tryz.prog.underlying 45=some (.slice 74):=by kernel_rfl
 cases cs with
 | nil=>exact absurd rfl h
 | cons c cs=>simp[gA,uF,this]
theorem aS8:gA Tryz.prog .eql 45 (.v (.slice none 0 0)) (.v (.slice none 0 0))=some (.v (.bool true)):=by
 have:Tryz.prog.underlying 45=some (.slice 74):=by kernel_rfl
 simp[gA,uF,this]
theorem QI:dQ Tryz.prog 48=some (76,240,352):=by kernel_rfl
theorem aHI:jE Tryz.prog 48=none:=by kernel_rfl
theorem aS9 (cs:List AV) (o:Nat):fF Tryz.prog 48 cs o=cs[o]?:=by
 have:fL Tryz.prog 48=some (false,1):=by kernel_rfl
 simp only[fF,this]
theorem aTa:sN Tryz.prog 48=some 1:=by kernel_rfl
theorem aTb:eF Tryz.prog 48=some [.slice none 0 0]:=by kernel_rfl
theorem aTc (n:Nat) (cs:List AV) (h:cs≠[]):gA Tryz.prog .eql 48 (.sl n cs) (.v (.slice none 0 0))=some (.v (.bool false)):=by
 have:Tryz.prog.underlying 48=some (.slice 76):=by kernel_rfl
 cases cs with
 | nil=>exact absurd rfl h
 | cons c cs=>simp[gA,uF,this]
theorem JO:dQ Tryz.prog 51=some (118,34,64):=by kernel_rfl
theorem aMv:jE Tryz.prog 51=none:=by kernel_rfl
theorem aTd (cs:List AV) (o:Nat):fF Tryz.prog 51 cs o=cs[o]?:=by
 have:fL Tryz.prog 51=some (false,1):=by kernel_rfl
 simp only[fF,this]
theorem aTe:sN Tryz.prog 51=some 1:=by kernel_rfl
theorem aTf:eF Tryz.prog 51=some [.slice none 0 0]:=by kernel_rfl
theorem Qq:dQ Tryz.prog 54=some (63,35,56):=by kernel_rfl
theorem aHJ:jE Tryz.prog 54=none:=by kernel_rfl
theorem aTg (cs:List AV) (o:Nat):fF Tryz.prog 54 cs o=cs[o]?:=by
 have:fL Tryz.prog 54=some (false,1):=by kernel_rfl
 simp only[fF,this]
theorem aTh:sN Tryz.prog 54=some 1:=by kernel_rfl
theorem aTi:eF Tryz.prog 54=some [.slice none 0 0]:=by kernel_rfl
theorem aDe:dQ Tryz.prog 70=some (27,32,32):=by kernel_rfl
theorem aMw:jE Tryz.prog 70=none:=by kernel_rfl
theorem aTj:sN Tryz.prog 70=some 1:=by kernel_rfl
theorem aTk:eF Tryz.prog 70=some [.slice none 0 0]:=by kernel_rfl
theorem J7:dQ Tryz.prog 109=some (41,33,40):=by kernel_rfl
theorem aET:jE Tryz.prog 109=none:=by kernel_rfl
theorem aMx:sN Tryz.prog 109=some 1:=by kernel_rfl
theorem aMy:eF Tryz.prog 109=some [.slice none 0 0]:=by kernel_rfl
theorem ZA:dQ Tryz.prog 124=some (190,446,720):=by kernel_rfl
theorem aMz:jE Tryz.prog 124=none:=by kernel_rfl
theorem aMA:sN Tryz.prog 124=some 1:=by kernel_rfl
theorem aMB:eF Tryz.prog 124=some [.slice none 0 0]:=by kernel_rfl
theorem aEU:dQ Tryz.prog 181=some (56,96,96):=by kernel_rfl
theorem aMC:jE Tryz.prog 181=none:=by kernel_rfl
theorem aMD:sN Tryz.prog 181=some 1:=by kernel_rfl
theorem aME:eF Tryz.prog 181=some [.slice none 0 0]:=by kernel_rfl
theorem ZB:dQ Tryz.prog 236=some (5,1,1):=by kernel_rfl
theorem aMF:jE Tryz.prog 236=none:=by kernel_rfl
theorem aMG:sN Tryz.prog 236=some 1:=by kernel_rfl
theorem aMH:eF Tryz.prog 236=some [.slice none 0 0]:=by kernel_rfl
theorem QJ:dQ Tryz.prog 262=some (4,1,1):=by kernel_rfl
theorem aEV:jE Tryz.prog 262=none:=by kernel_rfl
theorem aMI:sN Tryz.prog 262=some 1:=by kernel_rfl
theorem aMJ:eF Tryz.prog 262=some [.slice none 0 0]:=by kernel_rfl
theorem aTl {call:Nat→List AV→Option AV} {ops:Array Oper} {st:St} {T:Nat} {pos:String} {eU:Array Edge} (d:Nat):cC Tryz.prog call ops ⟨some d,.buildSlice 22 0 #[],T,pos,eU,none⟩ st=some ((st.new d (.row 3 1 0 [])).put (some d) (.own d (st.aQ d))):=Yr Kq ze3 d
theorem aTm (st:St) (x:AV):dE Tryz.prog st 34 (.v (.slice none 0 0)) x=xG 23 1 8 (aT st x):=tP WI x
theorem aTn (st:St) (s g:Nat) (x:AV):dE Tryz.prog st 34 (.own s g) x=wX 23 1 8 (st.heap s g) s g (aT st x):=rY WI s g x
theorem aTo (st:St) (s g:Nat) (kk:IntKind) (i:Int):bD Tryz.prog st 34 (.own s g) (.v (.int kk i))=OW 23 1 (st.heap s g) s g i:=Pb aHF WI s g kk i
theorem aTp {call:Nat→List AV→Option AV} {ops:Array Oper} {st:St} {T:Nat} {pos:String} {eU:Array Edge} (d:Nat):cC Tryz.prog call ops ⟨some d,.buildSlice 34 0 #[],T,pos,eU,none⟩ st=some ((st.new d (.row 23 1 0 [])).put (some d) (.own d (st.aQ d))):=Yr WI aGq d
theorem aTq {call:Nat→List AV→Option AV} {ops:Array Oper} {st:St} {T:Nat} {pos:String} {eU:Array Edge} (d:Nat) (x:Operand):cC Tryz.prog call ops ⟨some d,.buildSlice 34 1 #[(0,x)],T,pos,eU,none⟩ st=elV (st.ev x) (fun y=>some ((st.new d (.row 23 1 1 [.v y])).put (some d) (.own d (st.aQ d)))) (cC Tryz.prog call ops ⟨some d,.buildSlice 34 1 #[(0,x)],T,pos,eU,none⟩ st):=ID WI aGq d x
theorem aTr (st:St) (x:AV):dE Tryz.prog st 37 (.v (.slice none 0 0)) x=xG 100 34 48 (aT st x):=tP D9 x
theorem aTs (st:St) (s g:Nat) (x:AV):dE Tryz.prog st 37 (.own s g) x=wX 100 34 48 (st.heap s g) s g (aT st x):=rY D9 s g x
theorem aTt (st:St) (s g:Nat) (kk:IntKind) (i:Int):bD Tryz.prog st 37 (.own s g) (.v (.int kk i))=OW 100 34 (st.heap s g) s g i:=Pb aHG D9 s g kk i
theorem aTu {call:Nat→List AV→Option AV} {ops:Array Oper} {st:St} {T:Nat} {pos:String} {eU:Array Edge} (d:Nat):cC Tryz.prog call ops ⟨some d,.buildSlice 37 0 #[],T,pos,eU,none⟩ st=some ((st.new d (.row 100 34 0 [])).put (some d) (.own d (st.aQ d))):=Yr D9 aEP d
theorem aTv (st:St) (x:AV):dE Tryz.prog st 44 (.v (.slice none 0 0)) x=xG 87 67 104 (aT st x):=tP aAf x
theorem aTw (st:St) (s g:Nat) (x:AV):dE Tryz.prog st 44 (.own s g) x=wX 87 67 104 (st.heap s g) s g (aT st x):=rY aAf s g x
theorem aTx {call:Nat→List AV→Option AV} {ops:Array Oper} {st:St} {T:Nat} {pos:String} {eU:Array Edge} (d:Nat) (x:Operand):cC Tryz.prog call ops ⟨some d,.buildSlice 44 1 #[(0,x)],T,pos,eU,none⟩ st=H5 67 (st.ev x) (fun cs=>some ((st.new d (.row 87 67 1 cs)).put (some d) (.own d (st.aQ d)))) (cC Tryz.prog call ops ⟨some d,.buildSlice 44 1 #[(0,x)],T,pos,eU,none⟩ st):=Er aAf aMb (by rfl) (by decide) d x
theorem aTy (st:St) (x:AV):dE Tryz.prog st 45 (.v (.slice none 0 0)) x=xG 74 238 336 (aT st x):=tP oF x
theorem aTz (st:St) (s g:Nat) (x:AV):dE Tryz.prog st 45 (.own s g) x=wX 74 238 336 (st.heap s g) s g (aT st x):=rY oF s g x
theorem aTA (st:St) (s g:Nat) (kk:IntKind) (i:Int):bD Tryz.prog st 45 (.own s g) (.v (.int kk i))=OW 74 238 (st.heap s g) s g i:=Pb aHH oF s g kk i
theorem aTB {call:Nat→List AV→Option AV} {ops:Array Oper} {st:St} {T:Nat} {pos:String} {eU:Array Edge} (d:Nat):cC Tryz.prog call ops ⟨some d,.buildSlice 45 0 #[],T,pos,eU,none⟩ st=some ((st.new d (.row 74 238 0 [])).put (some d) (.own d (st.aQ d))):=Yr oF aGH d
theorem aTC {call:Nat→List AV→Option AV} {ops:Array Oper} {st:St} {T:Nat} {pos:String} {eU:Array Edge} (d:Nat) (x:Operand):cC Tryz.prog call ops ⟨some d,.buildSlice 45 1 #[(0,x)],T,pos,eU,none⟩ st=H5 238 (st.ev x) (fun cs=>some ((st.new d (.row 74 238 1 cs)).put (some d) (.own d (st.aQ d)))) (cC Tryz.prog call ops ⟨some d,.buildSlice 45 1 #[(0,x)],T,pos,eU,none⟩ st):=Er oF aGH (by rfl) (by decide) d x
theorem aTD {call:Nat→List AV→Option AV} {ops:Array Oper} {st:St} {T:Nat} {pos:String} {eU:Array Edge} (d:Nat):cC Tryz.prog call ops ⟨some d,.buildSlice 48 0 #[],T,pos,eU,none⟩ st=some ((st.new d (.row 76 240 0 [])).put (some d) (.own d (st.aQ d))):=Yr QI aGM d
theorem aTE (st:St) (x:AV):dE Tryz.prog st 51 (.v (.slice none 0 0)) x=xG 118 34 64 (aT st x):=tP JO x
theorem aTF (st:St) (s g:Nat) (x:AV):dE Tryz.prog st 51 (.own s g) x=wX 118 34 64 (st.heap s g) s g (aT st x):=rY JO s g x
theorem aTG {call:Nat→List AV→Option AV} {ops:Array Oper} {st:St} {T:Nat} {pos:String} {eU:Array Edge} (d:Nat) (x:Operand):cC Tryz.prog call ops ⟨some d,.buildSlice 51 1 #[(0,x)],T,pos,eU,none⟩ st=H5 34 (st.ev x) (fun cs=>some ((st.new d (.row 118 34 1 cs)).put (some d) (.own d (st.aQ d)))) (cC Tryz.prog call ops ⟨some d,.buildSlice 51 1 #[(0,x)],T,pos,eU,none⟩ st):=Er JO aER (by rfl) (by decide) d x
theorem aTH (st:St) (x:AV):dE Tryz.prog st 54 (.v (.slice none 0 0)) x=xG 63 35 56 (aT st x):=tP Qq x
theorem aTI (st:St) (s g:Nat) (x:AV):dE Tryz.prog st 54 (.own s g) x=wX 63 35 56 (st.heap s g) s g (aT st x):=rY Qq s g x
theorem aTJ (st:St) (s g:Nat) (kk:IntKind) (i:Int):bD Tryz.prog st 54 (.own s g) (.v (.int kk i))=OW 63 35 (st.heap s g) s g i:=Pb aHJ Qq s g kk i
theorem aTK {call:Nat→List AV→Option AV} {ops:Array Oper} {st:St} {T:Nat} {pos:String} {eU:Array Edge} (d:Nat) (x:Operand):cC Tryz.prog call ops ⟨some d,.buildSlice 54 1 #[(0,x)],T,pos,eU,none⟩ st=H5 35 (st.ev x) (fun cs=>some ((st.new d (.row 63 35 1 cs)).put (some d) (.own d (st.aQ d)))) (cC Tryz.prog call ops ⟨some d,.buildSlice 54 1 #[(0,x)],T,pos,eU,none⟩ st):=Er Qq aMn (by rfl) (by decide) d x
theorem aTL (st:St) (s g:Nat) (x:AV):dE Tryz.prog st 70 (.own s g) x=wX 27 32 32 (st.heap s g) s g (aT st x):=rY aDe s g x
theorem aTM {call:Nat→List AV→Option AV} {ops:Array Oper} {st:St} {T:Nat} {pos:String} {eU:Array Edge} (d:Nat) (x:Operand):cC Tryz.prog call ops ⟨some d,.buildSlice 70 1 #[(0,x)],T,pos,eU,none⟩ st=H5 32 (st.ev x) (fun cs=>some ((st.new d (.row 27 32 1 cs)).put (some d) (.own d (st.aQ d)))) (cC Tryz.prog call ops ⟨some d,.buildSlice 70 1 #[(0,x)],T,pos,eU,none⟩ st):=Er aDe aL3 (by rfl) (by decide) d x
theorem aMK (st:St) (s g:Nat) (kk:IntKind) (i:Int):bD Tryz.prog st 109 (.own s g) (.v (.int kk i))=OW 41 33 (st.heap s g) s g i:=Pb aET J7 s g kk i
theorem aML (st:St) (x:AV):dE Tryz.prog st 124 (.v (.slice none 0 0)) x=xG 190 446 720 (aT st x):=tP ZA x
theorem aMM (st:St) (s g:Nat) (x:AV):dE Tryz.prog st 124 (.own s g) x=wX 190 446 720 (st.heap s g) s g (aT st x):=rY ZA s g x
theorem aMN {call:Nat→List AV→Option AV} {ops:Array Oper} {st:St} {T:Nat} {pos:String} {eU:Array Edge} (d:Nat) (x:Operand):cC Tryz.prog call ops ⟨some d,.buildSlice 124 1 #[(0,x)],T,pos,eU,none⟩ st=H5 446 (st.ev x) (fun cs=>some ((st.new d (.row 190 446 1 cs)).put (some d) (.own d (st.aQ d)))) (cC Tryz.prog call ops ⟨some d,.buildSlice 124 1 #[(0,x)],T,pos,eU,none⟩ st):=Er ZA aES (by rfl) (by decide) d x
theorem aMO {call:Nat→List AV→Option AV} {ops:Array Oper} {st:St} {T:Nat} {pos:String} {eU:Array Edge} (d:Nat) (x:Operand):cC Tryz.prog call ops ⟨some d,.buildSlice 181 1 #[(0,x)],T,pos,eU,none⟩ st=H5 96 (st.ev x) (fun cs=>some ((st.new d (.row 56 96 1 cs)).put (some d) (.own d (st.aQ d)))) (cC Tryz.prog call ops ⟨some d,.buildSlice 181 1 #[(0,x)],T,pos,eU,none⟩ st):=Er aEU aMo (by rfl) (by decide) d x
theorem aMP (st:St) (x:AV):dE Tryz.prog st 236 (.v (.slice none 0 0)) x=xG 5 1 1 (aT st x):=tP ZB x
theorem aMQ (st:St) (s g:Nat) (x:AV):dE Tryz.prog st 236 (.own s g) x=wX 5 1 1 (st.heap s g) s g (aT st x):=rY ZB s g x
theorem aMR {call:Nat→List AV→Option AV} {ops:Array Oper} {st:St} {T:Nat} {pos:String} {eU:Array Edge} (d:Nat) (x:Operand):cC Tryz.prog call ops ⟨some d,.buildSlice 236 1 #[(0,x)],T,pos,eU,none⟩ st=elV (st.ev x) (fun y=>some ((st.new d (.row 5 1 1 [.v y])).put (some d) (.own d (st.aQ d)))) (cC Tryz.prog call ops ⟨some d,.buildSlice 236 1 #[(0,x)],T,pos,eU,none⟩ st):=ID ZB ze5 d x
theorem aMS (st:St) (x:AV):dE Tryz.prog st 262 (.v (.slice none 0 0)) x=xG 4 1 1 (aT st x):=tP QJ x
theorem aMT (st:St) (s g:Nat) (x:AV):dE Tryz.prog st 262 (.own s g) x=wX 4 1 1 (st.heap s g) s g (aT st x):=rY QJ s g x
theorem aMU {call:Nat→List AV→Option AV} {ops:Array Oper} {st:St} {T:Nat} {pos:String} {eU:Array Edge} (d:Nat) (x:Operand):cC Tryz.prog call ops ⟨some d,.buildSlice 262 1 #[(0,x)],T,pos,eU,none⟩ st=elV (st.ev x) (fun y=>some ((st.new d (.row 4 1 1 [.v y])).put (some d) (.own d (st.aQ d)))) (cC Tryz.prog call ops ⟨some d,.buildSlice 262 1 #[(0,x)],T,pos,eU,none⟩ st):=ID QJ ze4 d x
theorem ok7:bI Tryz.f7=true:=by kernel_rfl
theorem ok8:bI Tryz.f8=true:=by kernel_rfl
theorem ok9:bI Tryz.f9=true:=by kernel_rfl
theorem aLP:sY Tryz.f10=true:=by kernel_rfl
theorem aQj:bI Tryz.f24=true:=by kernel_rfl
theorem aPP:sY Tryz.f25=true:=by kernel_rfl
theorem aP8:sY Tryz.f27=true:=by kernel_rfl
theorem aNA:bI Tryz.f30=true:=by kernel_rfl
theorem aPK:bI Tryz.f32=true:=by kernel_rfl
theorem aNT:bI Tryz.f34=true:=by kernel_rfl
theorem aPJ:bI Tryz.f36=true:=by kernel_rfl
theorem aPO:bI Tryz.f37=true:=by kernel_rfl
theorem aQ0:bI Tryz.f38=true:=by kernel_rfl
theorem aOy:bI Tryz.f39=true:=by kernel_rfl
theorem aOv:bI Tryz.f40=true:=by kernel_rfl
theorem aQ5:bI Tryz.f41=true:=by kernel_rfl
theorem aQZ:sY Tryz.f42=true:=by kernel_rfl
theorem aQN:bI Tryz.f43=true:=by kernel_rfl
theorem aOM:bI Tryz.f44=true:=by kernel_rfl
theorem aPx:bI Tryz.f45=true:=by kernel_rfl
theorem aTN:bI Tryz.f46=true:=by kernel_rfl
theorem aTO:bI Tryz.f47=true:=by kernel_rfl
theorem aN7:bI Tryz.f48=true:=by kernel_rfl
theorem aMV:bI Tryz.f49=true:=by kernel_rfl
theorem aPQ:sY Tryz.f50=true:=by kernel_rfl
theorem aOB:bI Tryz.f52=true:=by kernel_rfl
theorem aOx:bI Tryz.f54=true:=by kernel_rfl
theorem aOD:sY Tryz.f59=true:=by kernel_rfl
theorem aOE:sY Tryz.f61=true:=by kernel_rfl
theorem aN5:bI Tryz.f64=true:=by kernel_rfl
theorem aOq:bI Tryz.f65=true:=by kernel_rfl
theorem aOC:bI Tryz.f67=true:=by kernel_rfl
theorem aOz:bI Tryz.f69=true:=by kernel_rfl
theorem aP4:bI Tryz.f72=true:=by kernel_rfl
theorem aP3:sY Tryz.f74=true:=by kernel_rfl
theorem aQi:sY Tryz.f75=true:=by kernel_rfl
theorem aMW:bI Tryz.f76=true:=by kernel_rfl
theorem aPG:bI Tryz.f85=true:=by kernel_rfl
theorem aPH:bI Tryz.f86=true:=by kernel_rfl
theorem aTP:bI Tryz.f87=true:=by kernel_rfl
theorem aNY:bI Tryz.f89=true:=by kernel_rfl
theorem aPI:bI Tryz.f91=true:=by kernel_rfl
theorem aPz:bI Tryz.f92=true:=by kernel_rfl
theorem aQP:bI Tryz.f93=true:=by kernel_rfl
theorem aOR:bI Tryz.f94=true:=by kernel_rfl
theorem aJ2:bI Tryz.f95=true:=by kernel_rfl
theorem aNP:bI Tryz.f96=true:=by kernel_rfl
theorem aOj:bI Tryz.f97=true:=by kernel_rfl
theorem aOk:bI Tryz.f98=true:=by kernel_rfl
theorem aOm:bI Tryz.f99=true:=by kernel_rfl
theorem aIR:bI Tryz.f100=true:=by kernel_rfl
theorem aLn:bI Tryz.f101=true:=by kernel_rfl
theorem aKF:bI Tryz.f102=true:=by kernel_rfl
theorem aEg:bI Tryz.f103=true:=by kernel_rfl
theorem aLJ:bI Tryz.f104=true:=by kernel_rfl
theorem aEf:bI Tryz.f105=true:=by kernel_rfl
theorem aIU:bI Tryz.f106=true:=by kernel_rfl
theorem aLL:bI Tryz.f107=true:=by kernel_rfl
theorem aEh:bI Tryz.f108=true:=by kernel_rfl
theorem aLI:bI Tryz.f109=true:=by kernel_rfl
theorem aJS:bI Tryz.f110=true:=by kernel_rfl
theorem aK9:bI Tryz.f111=true:=by kernel_rfl
theorem aJz:bI Tryz.f114=true:=by kernel_rfl
theorem aJP:bI Tryz.f117=true:=by kernel_rfl
theorem aJp:bI Tryz.f122=true:=by kernel_rfl
theorem aJq:bI Tryz.f128=true:=by kernel_rfl
theorem aD3:bI Tryz.f130=true:=by kernel_rfl
theorem aJD:bI Tryz.f131=true:=by kernel_rfl
theorem aJn:bI Tryz.f137=true:=by kernel_rfl
theorem aLd:bI Tryz.f143=true:=by kernel_rfl
theorem aLx:bI Tryz.f144=true:=by kernel_rfl
theorem aIH:bI Tryz.f145=true:=by kernel_rfl
theorem aLl:bI Tryz.f146=true:=by kernel_rfl
theorem aLu:bI Tryz.f147=true:=by kernel_rfl
theorem aIJ:bI Tryz.f149=true:=by kernel_rfl
theorem aI0:bI Tryz.f150=true:=by kernel_rfl
theorem aIY:bI Tryz.f151=true:=by kernel_rfl
theorem aJ0:bI Tryz.f152=true:=by kernel_rfl
theorem aJ1:bI Tryz.f153=true:=by kernel_rfl
theorem aIQ:bI Tryz.f154=true:=by kernel_rfl
theorem aIN:bI Tryz.f155=true:=by kernel_rfl
theorem aIO:bI Tryz.f156=true:=by kernel_rfl
theorem aII:bI Tryz.f157=true:=by kernel_rfl
theorem aJL:bI Tryz.f158=true:=by kernel_rfl
theorem aEi:bI Tryz.f159=true:=by kernel_rfl
theorem aEx:bI Tryz.f160=true:=by kernel_rfl
theorem aLH:bI Tryz.f161=true:=by kernel_rfl
theorem aLE:bI Tryz.f162=true:=by kernel_rfl
theorem aLB:bI Tryz.f163=true:=by kernel_rfl
theorem aEA:bI Tryz.f164=true:=by kernel_rfl
theorem aI9:bI Tryz.f165=true:=by kernel_rfl
theorem aLG:bI Tryz.f166=true:=by kernel_rfl
theorem aJy:bI Tryz.f169=true:=by kernel_rfl
theorem aJw:bI Tryz.f170=true:=by kernel_rfl
theorem aJO:bI Tryz.f172=true:=by kernel_rfl
theorem aD1:bI Tryz.f175=true:=by kernel_rfl
theorem aJt:bI Tryz.f176=true:=by kernel_rfl
theorem aKB:sY Tryz.f181=true:=by kernel_rfl
theorem aLb:bI Tryz.f182=true:=by kernel_rfl
theorem aLc:bI Tryz.f183=true:=by kernel_rfl
theorem aK7:sY Tryz.f184=true:=by kernel_rfl
theorem aLt:bI Tryz.f185=true:=by kernel_rfl
theorem aMX:bI Tryz.f186=true:=by kernel_rfl
theorem aIK:bI Tryz.f188=true:=by kernel_rfl
theorem aIM:bI Tryz.f189=true:=by kernel_rfl
theorem aEy:bI Tryz.f190=true:=by kernel_rfl
theorem aEz:bI Tryz.f191=true:=by kernel_rfl
theorem aI8:bI Tryz.f192=true:=by kernel_rfl
theorem aLF:bI Tryz.f193=true:=by kernel_rfl
theorem aLC:bI Tryz.f194=true:=by kernel_rfl
theorem aJN:sY Tryz.f195=true:=by kernel_rfl
theorem aIP:bI Tryz.f196=true:=by kernel_rfl
theorem aKz:bI Tryz.f199=true:=by kernel_rfl
theorem aK6:bI Tryz.f200=true:=by kernel_rfl
theorem aKQ:bI Tryz.f201=true:=by kernel_rfl
theorem aLi:sY Tryz.f202=true:=by kernel_rfl
theorem aLs:bI Tryz.f203=true:=by kernel_rfl
theorem aKt:bI Tryz.f204=true:=by kernel_rfl
theorem aKs:bI Tryz.f205=true:=by kernel_rfl
theorem aEu:bI Tryz.f206=true:=by kernel_rfl
theorem aKy:bI Tryz.f208=true:=by kernel_rfl
theorem aJ6:bI Tryz.f209=true:=by kernel_rfl
theorem aK0:sY Tryz.f210=true:=by kernel_rfl
theorem aK2:sY Tryz.f211=true:=by kernel_rfl
theorem aK3:bI Tryz.f212=true:=by kernel_rfl
theorem aK4:sY Tryz.f213=true:=by kernel_rfl
theorem aK5:sY Tryz.f214=true:=by kernel_rfl
theorem aEe:bI Tryz.f215=true:=by kernel_rfl
theorem aKP:bI Tryz.f216=true:=by kernel_rfl
theorem aJW:bI Tryz.f217=true:=by kernel_rfl
theorem aJR:bI Tryz.f218=true:=by kernel_rfl
theorem aKr:bI Tryz.f219=true:=by kernel_rfl
theorem aKq:bI Tryz.f220=true:=by kernel_rfl
theorem aKo:bI Tryz.f221=true:=by kernel_rfl
theorem aJk:bI Tryz.f222=true:=by kernel_rfl
theorem aKg:bI Tryz.f223=true:=by kernel_rfl
theorem aKl:bI Tryz.f224=true:=by kernel_rfl
theorem aKv:bI Tryz.f225=true:=by kernel_rfl
theorem aKJ:bI Tryz.f226=true:=by kernel_rfl
theorem aKX:bI Tryz.f227=true:=by kernel_rfl
theorem aKK:sY Tryz.f228=true:=by kernel_rfl
theorem aKY:bI Tryz.f229=true:=by kernel_rfl
theorem aKZ:bI Tryz.f230=true:=by kernel_rfl
theorem aEk:sY Tryz.f231=true:=by kernel_rfl
theorem aKO:bI Tryz.f232=true:=by kernel_rfl
theorem aJA:bI Tryz.f233=true:=by kernel_rfl
theorem aJ5:bI Tryz.f234=true:=by kernel_rfl
theorem aJ8:sY Tryz.f235=true:=by kernel_rfl
theorem aJf:bI Tryz.f236=true:=by kernel_rfl
theorem aJj:bI Tryz.f237=true:=by kernel_rfl
theorem aJg:bI Tryz.f238=true:=by kernel_rfl
theorem aJ4:bI Tryz.f239=true:=by kernel_rfl
theorem aJ7:bI Tryz.f240=true:=by kernel_rfl
theorem aKe:bI Tryz.f241=true:=by kernel_rfl
theorem aKf:bI Tryz.f242=true:=by kernel_rfl
theorem aKb:bI Tryz.f243=true:=by kernel_rfl
theorem aD9:bI Tryz.f244=true:=by kernel_rfl
theorem aI4:bI Tryz.f245=true:=by kernel_rfl
theorem aKV:bI Tryz.f246=true:=by kernel_rfl
theorem aJd:bI Tryz.f247=true:=by kernel_rfl
theorem aKa:bI Tryz.f248=true:=by kernel_rfl
theorem aKj:bI Tryz.f249=true:=by kernel_rfl
theorem aJ3:bI Tryz.f250=true:=by kernel_rfl
theorem aJm:bI Tryz.f251=true:=by kernel_rfl
theorem aKh:bI Tryz.f252=true:=by kernel_rfl
end Go.Ab.Tryz
