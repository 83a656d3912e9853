/-
  Part 8 of the proof: an evaluator of programs, its soundness, and what functions of this program compute.
-/
import Derived.Test.YtmcjkemalibacaaGreatK7
import Derived.Test.YtmcjkemalibacaaGreatProg
import Derived.KernelRfl
set_option linter.all false
set_option maxRecDepth 20000
set_option maxHeartbeats 40000000
open Go.Proofs.Tryz
namespace Go.Ab.Tryz
open Classical Go.Proofs Go.Ab
def mixed:prog.follows .mixedOrders=true:=by kernel_rfl
def ld3 (cs:List AV) (o:Nat):eZ prog 3 cs o=cs[o]?:=by
 have:fW prog 3=some (false,1):=by kernel_rfl
 simp only[eZ,this]
def ze3:eK prog 3=some [.int .i64 0]:=by kernel_rfl
def aSt (cs:List AV) (o:Nat):eZ prog 23 cs o=cs[o]?:=by
 have:fW prog 23=some (false,1):=by kernel_rfl
 simp only[eZ,this]
def YZ:tI prog 23=some 1:=by kernel_rfl
def aJd:eK prog 23=some [.int .u64 0]:=by kernel_rfl
def ld5 (cs:List AV) (o:Nat):eZ prog 5 cs o=cs[o]?:=by
 have:fW prog 5=some (false,1):=by kernel_rfl
 simp only[eZ,this]
def ze5:eK prog 5=some [.int .u8 0]:=by kernel_rfl
def ld4 (cs:List AV) (o:Nat):eZ prog 4 cs o=cs[o]?:=by
 have:fW prog 4=some (false,1):=by kernel_rfl
 simp only[eZ,this]
def ze4:eK prog 4=some [.bool false]:=by kernel_rfl
def aSB (cs:List AV) (o:Nat) (h:32<=cs.length-o):eZ prog 27 cs o=some (.agg (rd cs o 32)):=by
 have:fW prog 27=some (true,32):=by kernel_rfl
 simp[eZ,this,h]
def aLU:tI prog 27=some 32:=by kernel_rfl
def aNo:eK prog 27=some uC:=by kernel_rfl
def aJe (a b:cC):xQ prog 27 (bC a) (bC b)=some (decide (a=b)):=tE (l:=Kk) (by kernel_rfl) (by kernel_rfl) (by kernel_rfl) (oL a b) (qP a b)
def aSC (a b:cC):gL prog .eql 27 (.agg (bC a)) (.agg (bC b))=some (.v (.bool (decide (a=b)))):=by simp only[gL,aJe,aAo]
def aSD (a b:cC):gL prog .neq 27 (.agg (bC a)) (.agg (bC b))=some (.v (.bool (!(decide (a=b))))):=by simp only[gL,aJe,aAo]
def aHJ:jP prog 27=some (32,1):=by kernel_rfl
def aSE (st:St) (parts:List (Nat × Operand)):iX prog st 27 parts=if (parts.all fun p=>(st.ev p.2).jH)=true then (gS (fun i=>some (i * 1,1)) (bC cO) (parts.map fun p=>(p.1,st.ev p.2))).map .agg else none:=iH (z:=uC) (by kernel_rfl) jQ (Xr (by kernel_rfl))
def aSF (cs:List AV) (o:Nat) (h:4<=cs.length-o):eZ prog 33 cs o=some (.agg (rd cs o 4)):=by
 have:fW prog 33=some (true,4):=by kernel_rfl
 simp[eZ,this,h]
def aNp (a b:rD):xQ prog 33 (gI a) (gI b)=some (decide (a=b)):=tE (l:=K2) (by kernel_rfl) (by kernel_rfl) (by kernel_rfl) (Ps a b) (Vq a b)
def aSI (a b:rD):gL prog .neq 33 (.agg (gI a)) (.agg (gI b))=some (.v (.bool (!(decide (a=b))))):=by simp only[gL,aNp,aAo]
def aLN:jP prog 33=some (4,1):=by kernel_rfl
def aSJ (st:St) (parts:List (Nat × Operand)):iX prog st 33 parts=if (parts.all fun p=>(st.ev p.2).jH)=true then (gS (fun i=>some (i * 1,1)) (gI KK) (parts.map fun p=>(p.1,st.ev p.2))).map .agg else none:=iH (z:=DQ) (by kernel_rfl) jR (Xr (by kernel_rfl))
def aSK (cs:List AV) (o:Nat) (h:33<=cs.length-o):eZ prog 41 cs o=some (.agg (rd cs o 33)):=by
 have:fW prog 41=some (true,33):=by kernel_rfl
 simp[eZ,this,h]
def aHQ:eK prog 41=some Et:=by kernel_rfl
def aJh (a b:dL):xQ prog 41 (bG a) (bG b)=some (decide (a=b)):=tE (l:=Xt) (by kernel_rfl) (by kernel_rfl) (by kernel_rfl) (tS a b) (nI a b)
def aSM (a b:dL):gL prog .eql 41 (.agg (bG a)) (.agg (bG b))=some (.v (.bool (decide (a=b)))):=by simp only[gL,aJh,aAo]
def aSN (a b:dL):gL prog .neq 41 (.agg (bG a)) (.agg (bG b))=some (.v (.bool (!(decide (a=b))))):=by simp only[gL,aJh,aAo]
def aSO (st:St) (parts:List (Nat × Operand)):iX prog st 41 parts=if (parts.all fun p=>(st.ev p.2).jH)=true then (gS (fun i=>([(0,1),(1,32)]:List (Nat × Nat))[i]?) (bG gM) (parts.map fun p=>(p.1,st.ev p.2))).map .agg else none:=iH (z:=Et) (by kernel_rfl) Cr (fG (by kernel_rfl))
def aSP (cs:List AV) (o:Nat) (h:66<=cs.length-o):eZ prog 72 cs o=some (.agg (rd cs o 66)):=by
 have:fW prog 72=some (true,66):=by kernel_rfl
 simp[eZ,this,h]
def aSS (st:St) (parts:List (Nat × Operand)):iX prog st 72 parts=if (parts.all fun p=>(st.ev p.2).jH)=true then (gS (fun i=>([(0,33),(33,33)]:List (Nat × Nat))[i]?) (fO Rh) (parts.map fun p=>(p.1,st.ev p.2))).map .agg else none:=iH (z:=Sx) (by kernel_rfl) Vr (fG (by kernel_rfl))
def aST (cs:List AV) (o:Nat) (h:238<=cs.length-o):eZ prog 74 cs o=some (.agg (rd cs o 238)):=by
 have:fW prog 74=some (true,238):=by kernel_rfl
 simp[eZ,this,h]
def RZ:tI prog 74=some 238:=by kernel_rfl
def aBC:eK prog 74=some Jz:=by kernel_rfl
def aJu (a b:Block):xQ prog 74 (aU a) (aU b)=some (decide (a=b)):=tE (l:=A3) (by kernel_rfl) (by kernel_rfl) (by kernel_rfl) (Xu a b) (DT a b)
def aSU (a b:Block):gL prog .eql 74 (.agg (aU a)) (.agg (aU b))=some (.v (.bool (decide (a=b)))):=by simp only[gL,aJu,aAo]
def aSV (a b:Block):gL prog .neq 74 (.agg (aU a)) (.agg (aU b))=some (.v (.bool (!(decide (a=b))))):=by simp only[gL,aJu,aAo]
def aSW (st:St) (parts:List (Nat × Operand)):iX prog st 74 parts=if (parts.all fun p=>(st.ev p.2).jH)=true then (gS (fun i=>([(0,66),(66,1),(67,32),(99,32),(131,32),(163,4),(167,4),(171,33),(204,33),(237,1)]:List (Nat × Nat))[i]?) (aU dO) (parts.map fun p=>(p.1,st.ev p.2))).map .agg else none:=iH (z:=Jz) (by kernel_rfl) Ta (fG (by kernel_rfl))
def aSX (cs:List AV) (o:Nat) (h:240<=cs.length-o):eZ prog 76 cs o=some (.agg (rd cs o 240)):=by
 have:fW prog 76=some (true,240):=by kernel_rfl
 simp[eZ,this,h]
def aJy:eK prog 76=some DU:=by kernel_rfl
def aNq (a b:Node):xQ prog 76 (fF a) (fF b)=some (decide (a=b)):=tE (l:=aHf) (by kernel_rfl) (by kernel_rfl) (by kernel_rfl) (AO a b) (U2 a b)
def aSZ (a b:Node):gL prog .neq 76 (.agg (fF a)) (.agg (fF b))=some (.v (.bool (!(decide (a=b))))):=by simp only[gL,aNq,aAo]
def aS0 (st:St) (parts:List (Nat × Operand)):iX prog st 76 parts=if (parts.all fun p=>(st.ev p.2).jH)=true then (gS (fun i=>([(0,238),(238,1),(239,1)]:List (Nat × Nat))[i]?) (fF K4) (parts.map fun p=>(p.1,st.ev p.2))).map .agg else none:=iH (z:=DU) (by kernel_rfl) NQ (fG (by kernel_rfl))
def aS1 (cs:List AV) (o:Nat) (h:1<=cs.length-o):eZ prog 50 cs o=some (.agg (rd cs o 1)):=by
 have:fW prog 50=some (true,1):=by kernel_rfl
 simp[eZ,this,h]
def FX0:intKind prog 3=some .i64/\tI prog 3=some 1/\intKind prog 23=some .u64/\intKind prog 61=some .u64/\tI prog 61=some 1/\eK prog 61=some [.int .u64 0]/\intKind prog 5=some .u8/\tI prog 5=some 1/\intKind prog 2=some .i64/\tI prog 2=some 1/\eK prog 2=some [.int .i64 0]/\intKind prog 64=some .i64/\tI prog 64=some 1/\eK prog 64=some [.int .i64 0]/\tI prog 4=some 1/\tI prog 33=some 4/\eK prog 33=some DQ/\tI prog 41=some 33/\aY prog 41 0=some 0/\aY prog 41 1=some 1/\tI prog 72=some 66/\aY prog 72 0=some 0/\aY prog 72 1=some 33/\eK prog 72=some Sx/\aY prog 74 0=some 0/\aY prog 74 1=some 66/\aY prog 74 2=some 67/\aY prog 74 3=some 99/\aY prog 74 4=some 131/\aY prog 74 5=some 163/\aY prog 74 6=some 167/\aY prog 74 7=some 171/\aY prog 74 8=some 204/\aY prog 74 9=some 237/\tI prog 76=some 240/\aY prog 76 0=some 0/\aY prog 76 1=some 238/\aY prog 76 2=some 239/\tI prog 50=some 1/\aY prog 50 0=some 0:=by and_intros<;>kernel_rfl
def aS4 (st:St) (parts:List (Nat × Operand)):iX prog st 50 parts=if (parts.all fun p=>(st.ev p.2).jH)=true then (gS (fun i=>([(0,1)]:List (Nat × Nat))[i]?) [.v (.slice none 0 0)] (parts.map fun p=>(p.1,st.ev p.2))).map .agg else none:=iH (z:=[.slice none 0 0]) (by kernel_rfl) rfl (fG (by kernel_rfl))
def aS7 (st:St) (parts:List (Nat × Operand)):iX prog st 25 parts=if (parts.all fun p=>(st.ev p.2).jH)=true then (gS (fun i=>([(0,1)]:List (Nat × Nat))[i]?) (mY Zp) (parts.map fun p=>(p.1,st.ev p.2))).map .agg else none:=iH (z:=Mq) (by kernel_rfl) Mr (fG (by kernel_rfl))
def aS8 (cs:List AV) (o:Nat) (h:34<=cs.length-o):eZ prog 29 cs o=some (.agg (rd cs o 34)):=by
 have:fW prog 29=some (true,34):=by kernel_rfl
 simp[eZ,this,h]
def aNr (a b:gV):xQ prog 29 (dK a) (dK b)=some (decide (a=b)):=tE (l:=VZ) (by kernel_rfl) (by kernel_rfl) (by kernel_rfl) (GZ a b) (NX a b)
def aTb (a b:gV):gL prog .eql 29 (.agg (dK a)) (.agg (dK b))=some (.v (.bool (decide (a=b)))):=by simp only[gL,aNr,aAo]
def aTc (st:St) (parts:List (Nat × Operand)):iX prog st 29 parts=if (parts.all fun p=>(st.ev p.2).jH)=true then (gS (fun i=>([(0,1),(1,1),(2,32)]:List (Nat × Nat))[i]?) (dK DW) (parts.map fun p=>(p.1,st.ev p.2))).map .agg else none:=iH (z:=Fh) (by kernel_rfl) Px (fG (by kernel_rfl))
def aTd (cs:List AV) (o:Nat) (h:6<=cs.length-o):eZ prog 31 cs o=some (.agg (rd cs o 6)):=by
 have:fW prog 31=some (true,6):=by kernel_rfl
 simp[eZ,this,h]
def aNs (a b:lH):xQ prog 31 (fV a) (fV b)=some (decide (a=b)):=tE (l:=K9) (by kernel_rfl) (by kernel_rfl) (by kernel_rfl) (NZ a b) (WA a b)
def aTg (a b:lH):gL prog .neq 31 (.agg (fV a)) (.agg (fV b))=some (.v (.bool (!(decide (a=b))))):=by simp only[gL,aNs,aAo]
def aTh (st:St) (parts:List (Nat × Operand)):iX prog st 31 parts=if (parts.all fun p=>(st.ev p.2).jH)=true then (gS (fun i=>([(0,1),(1,1),(2,1),(3,1),(4,1),(5,1)]:List (Nat × Nat))[i]?) (fV NY) (parts.map fun p=>(p.1,st.ev p.2))).map .agg else none:=iH (z:=Th) (by kernel_rfl) Wc (fG (by kernel_rfl))
def aTi (cs:List AV) (o:Nat) (h:45<=cs.length-o):eZ prog 36 cs o=some (.agg (rd cs o 45)):=by
 have:fW prog 36=some (true,45):=by kernel_rfl
 simp[eZ,this,h]
def aTl (st:St) (parts:List (Nat × Operand)):iX prog st 36 parts=if (parts.all fun p=>(st.ev p.2).jH)=true then (gS (fun i=>([(0,6),(6,1),(7,1),(8,4),(12,32),(44,1)]:List (Nat × Nat))[i]?) (bX mX) (parts.map fun p=>(p.1,st.ev p.2))).map .agg else none:=iH (z:=Tl) (by kernel_rfl) We (fG (by kernel_rfl))
def aNt (cs:List AV) (o:Nat) (h:34<=cs.length-o):eZ prog 100 cs o=some (.agg (rd cs o 34)):=by
 have:fW prog 100=some (true,34):=by kernel_rfl
 simp[eZ,this,h]
def aGI:tI prog 100=some 34:=by kernel_rfl
def aHi:eK prog 100=some L1:=by kernel_rfl
def aHj (a b:kN):xQ prog 100 (jT a) (jT b)=some (decide (a=b)):=tE (l:=aHh) (by kernel_rfl) (by kernel_rfl) (by kernel_rfl) (B9 a b) (V5 a b)
def aNu (a b:kN):gL prog .neq 100 (.agg (jT a)) (.agg (jT b))=some (.v (.bool (!(decide (a=b))))):=by simp only[gL,aHj,aAo]
def aNv (st:St) (parts:List (Nat × Operand)):iX prog st 100 parts=if (parts.all fun p=>(st.ev p.2).jH)=true then (gS (fun i=>([(0,1),(1,1),(2,32)]:List (Nat × Nat))[i]?) (jT pN) (parts.map fun p=>(p.1,st.ev p.2))).map .agg else none:=iH (z:=L1) (by kernel_rfl) L2 (fG (by kernel_rfl))
def aTm (cs:List AV) (o:Nat) (h:67<=cs.length-o):eZ prog 87 cs o=some (.agg (rd cs o 67)):=by
 have:fW prog 87=some (true,67):=by kernel_rfl
 simp[eZ,this,h]
def aNw:eK prog 87=some aCP:=by kernel_rfl
def aTo (st:St) (parts:List (Nat × Operand)):iX prog st 87 parts=if (parts.all fun p=>(st.ev p.2).jH)=true then (gS (fun i=>([(0,1),(1,32),(33,33),(66,1)]:List (Nat × Nat))[i]?) (iD Jx) (parts.map fun p=>(p.1,st.ev p.2))).map .agg else none:=iH (z:=aCP) (by kernel_rfl) C0 (fG (by kernel_rfl))
def aNx (cs:List AV) (o:Nat) (h:35<=cs.length-o):eZ prog 186 cs o=some (.agg (rd cs o 35)):=by
 have:fW prog 186=some (true,35):=by kernel_rfl
 simp[eZ,this,h]
def aNA (st:St) (parts:List (Nat × Operand)):iX prog st 186 parts=if (parts.all fun p=>(st.ev p.2).jH)=true then (gS (fun i=>([(0,1),(1,1),(2,32),(34,1)]:List (Nat × Nat))[i]?) (gU OE) (parts.map fun p=>(p.1,st.ev p.2))).map .agg else none:=iH (z:=Wf) (by kernel_rfl) EA (fG (by kernel_rfl))
def aNB (cs:List AV) (o:Nat) (h:70<=cs.length-o):eZ prog 188 cs o=some (.agg (rd cs o 70)):=by
 have:fW prog 188=some (true,70):=by kernel_rfl
 simp[eZ,this,h]
def FX1:eK prog 50=some [.slice none 0 0]/\tI prog 25=some 1/\aY prog 25 0=some 0/\eK prog 25=some Mq/\tI prog 29=some 34/\aY prog 29 0=some 0/\aY prog 29 1=some 1/\aY prog 29 2=some 2/\eK prog 29=some Fh/\tI prog 31=some 6/\aY prog 31 0=some 0/\aY prog 31 1=some 1/\aY prog 31 2=some 2/\aY prog 31 3=some 3/\aY prog 31 4=some 4/\aY prog 31 5=some 5/\eK prog 31=some Th/\tI prog 36=some 45/\aY prog 36 0=some 0/\aY prog 36 1=some 6/\aY prog 36 2=some 7/\aY prog 36 3=some 8/\aY prog 36 4=some 12/\aY prog 36 5=some 44/\eK prog 36=some Tl/\aY prog 100 0=some 0/\aY prog 100 1=some 1/\aY prog 100 2=some 2/\tI prog 87=some 67/\aY prog 87 0=some 0/\aY prog 87 1=some 1/\aY prog 87 2=some 33/\aY prog 87 3=some 66/\tI prog 186=some 35/\aY prog 186 0=some 0/\aY prog 186 1=some 1/\aY prog 186 2=some 2/\aY prog 186 3=some 34/\eK prog 186=some Wf/\tI prog 188=some 70:=by and_intros<;>kernel_rfl
def aNE (st:St) (parts:List (Nat × Operand)):iX prog st 188 parts=if (parts.all fun p=>(st.ev p.2).jH)=true then (gS (fun i=>([(0,35),(35,35)]:List (Nat × Nat))[i]?) (cD Wg) (parts.map fun p=>(p.1,st.ev p.2))).map .agg else none:=iH (z:=Gj) (by kernel_rfl) Kr (fG (by kernel_rfl))
def aNF (cs:List AV) (o:Nat) (h:34<=cs.length-o):eZ prog 118 cs o=some (.agg (rd cs o 34)):=by
 have:fW prog 118=some (true,34):=by kernel_rfl
 simp[eZ,this,h]
def aG8:tI prog 118=some 34:=by kernel_rfl
def aBB:eK prog 118=some Ph:=by kernel_rfl
def aNG (st:St) (parts:List (Nat × Operand)):iX prog st 118 parts=if (parts.all fun p=>(st.ev p.2).jH)=true then (gS (fun i=>([(0,33),(33,1)]:List (Nat × Nat))[i]?) (bZ dM) (parts.map fun p=>(p.1,st.ev p.2))).map .agg else none:=iH (z:=Ph) (by kernel_rfl) EB (fG (by kernel_rfl))
def aTp (cs:List AV) (o:Nat) (h:35<=cs.length-o):eZ prog 63 cs o=some (.agg (rd cs o 35)):=by
 have:fW prog 63=some (true,35):=by kernel_rfl
 simp[eZ,this,h]
def aIq:tI prog 63=some 35:=by kernel_rfl
def aNH:eK prog 63=some Tq:=by kernel_rfl
def aTq (st:St) (parts:List (Nat × Operand)):iX prog st 63 parts=if (parts.all fun p=>(st.ev p.2).jH)=true then (gS (fun i=>([(0,1),(1,32),(33,1),(34,1)]:List (Nat × Nat))[i]?) (dF dA) (parts.map fun p=>(p.1,st.ev p.2))).map .agg else none:=iH (z:=Tq) (by kernel_rfl) ED (fG (by kernel_rfl))
def aTr (cs:List AV) (o:Nat) (h:96<=cs.length-o):eZ prog 56 cs o=some (.agg (rd cs o 96)):=by
 have:fW prog 56=some (true,96):=by kernel_rfl
 simp[eZ,this,h]
def aNI:eK prog 56=some Ks:=by kernel_rfl
def aNJ (a b:Command):xQ prog 56 (eN a) (eN b)=some (decide (a=b)):=tE (l:=WL) (by kernel_rfl) (by kernel_rfl) (by kernel_rfl) (HL a b) (OI a b)
def aTt (a b:Command):gL prog .eql 56 (.agg (eN a)) (.agg (eN b))=some (.v (.bool (decide (a=b)))):=by simp only[gL,aNJ,aAo]
def aTu (st:St) (parts:List (Nat × Operand)):iX prog st 56 parts=if (parts.all fun p=>(st.ev p.2).jH)=true then (gS (fun i=>([(0,32),(32,32),(64,32)]:List (Nat × Nat))[i]?) (eN EH) (parts.map fun p=>(p.1,st.ev p.2))).map .agg else none:=iH (z:=Ks) (by kernel_rfl) Qd (fG (by kernel_rfl))
def aTv (cs:List AV) (o:Nat) (h:2<=cs.length-o):eZ prog 39 cs o=some (.agg (rd cs o 2)):=by
 have:fW prog 39=some (true,2):=by kernel_rfl
 simp[eZ,this,h]
def aTy (st:St) (parts:List (Nat × Operand)):iX prog st 39 parts=if (parts.all fun p=>(st.ev p.2).jH)=true then (gS (fun i=>([(0,1),(1,1)]:List (Nat × Nat))[i]?) (eQ Ou) (parts.map fun p=>(p.1,st.ev p.2))).map .agg else none:=iH (z:=EK) (by kernel_rfl) EL (fG (by kernel_rfl))
def aTz (cs:List AV) (o:Nat) (h:66<=cs.length-o):eZ prog 43 cs o=some (.agg (rd cs o 66)):=by
 have:fW prog 43=some (true,66):=by kernel_rfl
 simp[eZ,this,h]
def aNK (a b:kF):xQ prog 43 (eW a) (eW b)=some (decide (a=b)):=tE (l:=KL) (by kernel_rfl) (by kernel_rfl) (by kernel_rfl) (EM a b) (HM a b)
def aTC (a b:kF):gL prog .neq 43 (.agg (eW a)) (.agg (eW b))=some (.v (.bool (!(decide (a=b))))):=by simp only[gL,aNK,aAo]
def aTD (st:St) (parts:List (Nat × Operand)):iX prog st 43 parts=if (parts.all fun p=>(st.ev p.2).jH)=true then (gS (fun i=>([(0,33),(33,33)]:List (Nat × Nat))[i]?) (eW Wl) (parts.map fun p=>(p.1,st.ev p.2))).map .agg else none:=iH (z:=Gm) (by kernel_rfl) Ku (fG (by kernel_rfl))
def aTG (cs:List AV) (o:Nat) (h:150<=cs.length-o):eZ prog 53 cs o=some (.agg (rd cs o 150)):=by
 have:fW prog 53=some (true,150):=by kernel_rfl
 simp[eZ,this,h]
def aTJ (st:St) (parts:List (Nat × Operand)):iX prog st 53 parts=if (parts.all fun p=>(st.ev p.2).jH)=true then (gS (fun i=>([(0,45),(45,2),(47,66),(113,2),(115,1),(116,1),(117,32),(149,1)]:List (Nat × Nat))[i]?) (aA gC) (parts.map fun p=>(p.1,st.ev p.2))).map .agg else none:=iH (z:=ER) (by kernel_rfl) ES (fG (by kernel_rfl))
def aTK (cs:List AV) (o:Nat) (h:252<=cs.length-o):eZ prog 58 cs o=some (.agg (rd cs o 252)):=by
 have:fW prog 58=some (true,252):=by kernel_rfl
 simp[eZ,this,h]
def FX2:aY prog 188 0=some 0/\aY prog 188 1=some 35/\eK prog 188=some Gj/\aY prog 118 0=some 0/\aY prog 118 1=some 33/\aY prog 63 0=some 0/\aY prog 63 1=some 1/\aY prog 63 2=some 33/\aY prog 63 3=some 34/\tI prog 56=some 96/\aY prog 56 0=some 0/\aY prog 56 1=some 32/\aY prog 56 2=some 64/\tI prog 39=some 2/\aY prog 39 0=some 0/\aY prog 39 1=some 1/\eK prog 39=some EK/\tI prog 43=some 66/\aY prog 43 0=some 0/\aY prog 43 1=some 33/\eK prog 43=some Gm/\tI prog 47=some 2/\aY prog 47 0=some 0/\aY prog 47 1=some 1/\eK prog 47=some Zq/\tI prog 53=some 150/\aY prog 53 0=some 0/\aY prog 53 1=some 45/\aY prog 53 2=some 47/\aY prog 53 3=some 113/\aY prog 53 4=some 115/\aY prog 53 5=some 116/\aY prog 53 6=some 117/\aY prog 53 7=some 149/\eK prog 53=some ER/\tI prog 58=some 252/\aY prog 58 0=some 0/\aY prog 58 1=some 150/\aY prog 58 2=some 151/\aY prog 58 3=some 152:=by and_intros<;>kernel_rfl
def aTN (st:St) (parts:List (Nat × Operand)):iX prog st 58 parts=if (parts.all fun p=>(st.ev p.2).jH)=true then (gS (fun i=>([(0,150),(150,1),(151,1),(152,1),(153,1),(154,96),(250,1),(251,1)]:List (Nat × Nat))[i]?) (aP lZ) (parts.map fun p=>(p.1,st.ev p.2))).map .agg else none:=iH (z:=OO) (by kernel_rfl) WN (fG (by kernel_rfl))
def aNL (cs:List AV) (o:Nat) (h:446<=cs.length-o):eZ prog 190 cs o=some (.agg (rd cs o 446)):=by
 have:fW prog 190=some (true,446):=by kernel_rfl
 simp[eZ,this,h]
def aHk:eK prog 190=some aFu:=by kernel_rfl
def aNN (st:St) (parts:List (Nat × Operand)):iX prog st 190 parts=if (parts.all fun p=>(st.ev p.2).jH)=true then (gS (fun i=>([(0,1),(1,238),(239,67),(306,70),(376,34),(410,34),(444,1),(445,1)]:List (Nat × Nat))[i]?) (lD Be) (parts.map fun p=>(p.1,st.ev p.2))).map .agg else none:=iH (z:=aFu) (by kernel_rfl) aCQ (fG (by kernel_rfl))
def aKn (cs:List AV) (h:150<=cs.length):Di prog 58 0 (.agg cs)=some (.agg (rd cs 0 150)):=y9 (by kernel_rfl) h
def aKo (cs:List AV):Di prog 41 0 (.agg cs)=cs[0]?:=z4 (k:=1) (by kernel_rfl)
def Oh:dX prog 22=some (3,1,8):=by kernel_rfl
def aFO:jP prog 22=none:=by kernel_rfl
def aTO (cs:List AV) (o:Nat):eZ prog 22 cs o=cs[o]?:=by
 have:fW prog 22=some (false,1):=by kernel_rfl
 simp only[eZ,this]
def aTR (n:Nat) (cs:List AV) (h:cs≠[]):gL prog .eql 22 (.sl n cs) (.v (.slice none 0 0))=some (.v (.bool false)):=by
 have:prog.underlying 22=some (.slice 3):=by kernel_rfl
 cases cs with
 | nil=>exact absurd rfl h
 | cons c cs=>simp[gL,uO,this]
def aTS:gL prog .eql 22 (.v (.slice none 0 0)) (.v (.slice none 0 0))=some (.v (.bool true)):=by
 have:prog.underlying 22=some (.slice 3):=by kernel_rfl
 simp[gL,uO,this]
def D1:dX prog 34=some (23,1,8):=by kernel_rfl
def aKp:jP prog 34=none:=by kernel_rfl
def aTT (cs:List AV) (o:Nat):eZ prog 34 cs o=cs[o]?:=by
 have:fW prog 34=some (false,1):=by kernel_rfl
 simp only[eZ,this]
def aTW (n:Nat) (cs:List AV) (h:cs≠[]):gL prog .eql 34 (.sl n cs) (.v (.slice none 0 0))=some (.v (.bool false)):=by
 have:prog.underlying 34=some (.slice 23):=by kernel_rfl
 cases cs with
 | nil=>exact absurd rfl h
 | cons c cs=>simp[gL,uO,this]
def aTX:gL prog .eql 34 (.v (.slice none 0 0)) (.v (.slice none 0 0))=some (.v (.bool true)):=by
 have:prog.underlying 34=some (.slice 23):=by kernel_rfl
 simp[gL,uO,this]
def V8:dX prog 37=some (100,34,48):=by kernel_rfl
def aKq:jP prog 37=none:=by kernel_rfl
def aTY (cs:List AV) (o:Nat):eZ prog 37 cs o=cs[o]?:=by
 have:fW prog 37=some (false,1):=by kernel_rfl
 simp only[eZ,this]
def aT1 (n:Nat) (cs:List AV) (h:cs≠[]):gL prog .eql 37 (.sl n cs) (.v (.slice none 0 0))=some (.v (.bool false)):=by
 have:prog.underlying 37=some (.slice 100):=by kernel_rfl
 cases cs with
 | nil=>exact absurd rfl h
 | cons c cs=>simp[gL,uO,this]
def aT2:gL prog .eql 37 (.v (.slice none 0 0)) (.v (.slice none 0 0))=some (.v (.bool true)):=by
 have:prog.underlying 37=some (.slice 100):=by kernel_rfl
 simp[gL,uO,this]
def aCR:dX prog 44=some (87,67,104):=by kernel_rfl
def aNO:jP prog 44=none:=by kernel_rfl
def aT3 (cs:List AV) (o:Nat):eZ prog 44 cs o=cs[o]?:=by
 have:fW prog 44=some (false,1):=by kernel_rfl
 simp only[eZ,this]
def nF:dX prog 45=some (74,238,336):=by kernel_rfl
def aKr:jP prog 45=none:=by kernel_rfl
def aT6 (cs:List AV) (o:Nat):eZ prog 45 cs o=cs[o]?:=by
 have:fW prog 45=some (false,1):=by kernel_rfl
 simp only[eZ,this]
def aT9 (n:Nat) (cs:List AV) (h:cs≠[]):gL prog .eql 45 (.sl n cs) (.v (.slice none 0 0))=some (.v (.bool false)):=by
 have:prog.underlying 45=some (.slice 74):=by kernel_rfl
 cases cs with
 | nil=>exact absurd rfl h
 | cons c cs=>simp[gL,uO,this]
def aUa:gL prog .eql 45 (.v (.slice none 0 0)) (.v (.slice none 0 0))=some (.v (.bool true)):=by
 have:prog.underlying 45=some (.slice 74):=by kernel_rfl
 simp[gL,uO,this]
def KV:dX prog 48=some (76,240,352):=by kernel_rfl
def aKs:jP prog 48=none:=by kernel_rfl
def aUb (cs:List AV) (o:Nat):eZ prog 48 cs o=cs[o]?:=by
 have:fW prog 48=some (false,1):=by kernel_rfl
 simp only[eZ,this]
def aUe (n:Nat) (cs:List AV) (h:cs≠[]):gL prog .eql 48 (.sl n cs) (.v (.slice none 0 0))=some (.v (.bool false)):=by
 have:prog.underlying 48=some (.slice 76):=by kernel_rfl
 cases cs with
 | nil=>exact absurd rfl h
 | cons c cs=>simp[gL,uO,this]
def Va:dX prog 51=some (118,34,64):=by kernel_rfl
def aKt:jP prog 51=none:=by kernel_rfl
def aUf (cs:List AV) (o:Nat):eZ prog 51 cs o=cs[o]?:=by
 have:fW prog 51=some (false,1):=by kernel_rfl
 simp only[eZ,this]
def Ux:dX prog 54=some (63,35,56):=by kernel_rfl
def aKu:jP prog 54=none:=by kernel_rfl
def aUi (cs:List AV) (o:Nat):eZ prog 54 cs o=cs[o]?:=by
 have:fW prog 54=some (false,1):=by kernel_rfl
 simp only[eZ,this]
def aFP:dX prog 70=some (27,32,32):=by kernel_rfl
def aNP:jP prog 70=none:=by kernel_rfl
def QU:dX prog 109=some (41,33,40):=by kernel_rfl
def aCS:jP prog 109=none:=by kernel_rfl
def L3:dX prog 124=some (190,446,720):=by kernel_rfl
def aHl:dX prog 181=some (56,96,96):=by kernel_rfl
def FX3:aY prog 58 4=some 153/\aY prog 58 5=some 154/\aY prog 58 6=some 250/\aY prog 58 7=some 251/\eK prog 58=some OO/\tI prog 190=some 446/\aY prog 190 0=some 0/\aY prog 190 1=some 1/\aY prog 190 2=some 239/\aY prog 190 3=some 306/\aY prog 190 4=some 376/\aY prog 190 5=some 410/\aY prog 190 6=some 444/\aY prog 190 7=some 445/\tI prog 22=some 1/\eK prog 22=some [.slice none 0 0]/\tI prog 34=some 1/\eK prog 34=some [.slice none 0 0]/\tI prog 37=some 1/\eK prog 37=some [.slice none 0 0]/\tI prog 44=some 1/\eK prog 44=some [.slice none 0 0]/\tI prog 45=some 1/\eK prog 45=some [.slice none 0 0]/\tI prog 48=some 1/\eK prog 48=some [.slice none 0 0]/\tI prog 51=some 1/\eK prog 51=some [.slice none 0 0]/\tI prog 54=some 1/\eK prog 54=some [.slice none 0 0]/\tI prog 70=some 1/\eK prog 70=some [.slice none 0 0]/\tI prog 109=some 1/\eK prog 109=some [.slice none 0 0]/\jP prog 124=none/\tI prog 124=some 1/\eK prog 124=some [.slice none 0 0]/\jP prog 181=none/\tI prog 181=some 1/\eK prog 181=some [.slice none 0 0]:=by and_intros<;>kernel_rfl
def L4:dX prog 236=some (5,1,1):=by kernel_rfl
def WR:dX prog 262=some (4,1,1):=by kernel_rfl
def aHm:jP prog 262=none:=by kernel_rfl
def FX4:jP prog 236=none/\tI prog 236=some 1/\eK prog 236=some [.slice none 0 0]/\tI prog 262=some 1/\eK prog 262=some [.slice none 0 0]:=by and_intros<;>kernel_rfl
def aUn {call:Nat->List AV->Option AV} {ops:Array Oper} {st:St} {T:Nat} {pos:String} {fB:Array Edge} (d:Nat):cI prog call ops ⟨some d,.buildSlice 22 0 #[],T,pos,fB,none⟩ st=some ((st.new d (.row 3 1 0 [])).put (some d) (.own d (st.aQ d))):=Vv Oh ze3 d
def aUo (st:St) (x:AV):dJ prog st 34 (.v (.slice none 0 0)) x=zQ 23 1 8 (aV st x):=vL D1 x
def aUp (st:St) (s g:Nat) (x:AV):dJ prog st 34 (.own s g) x=zF 23 1 8 (st.heap s g) s g (aV st x):=sF D1 s g x
def aUq (st:St) (s g:Nat) (kk:IntKind) (i:Int):bI prog st 34 (.own s g) (.v (.int kk i))=PO 23 1 (st.heap s g) s g i:=Mp aKp D1 s g kk i
def aUr {call:Nat->List AV->Option AV} {ops:Array Oper} {st:St} {T:Nat} {pos:String} {fB:Array Edge} (d:Nat):cI prog call ops ⟨some d,.buildSlice 34 0 #[],T,pos,fB,none⟩ st=some ((st.new d (.row 23 1 0 [])).put (some d) (.own d (st.aQ d))):=Vv D1 aJd d
def aUs {call:Nat->List AV->Option AV} {ops:Array Oper} {st:St} {T:Nat} {pos:String} {fB:Array Edge} (d:Nat) (x:Operand):cI prog call ops ⟨some d,.buildSlice 34 1 #[(0,x)],T,pos,fB,none⟩ st=elV (st.ev x) (fun y=>some ((st.new d (.row 23 1 1 [.v y])).put (some d) (.own d (st.aQ d)))) (cI prog call ops ⟨some d,.buildSlice 34 1 #[(0,x)],T,pos,fB,none⟩ st):=NR D1 aJd d x
def aUt (st:St) (x:AV):dJ prog st 37 (.v (.slice none 0 0)) x=zQ 100 34 48 (aV st x):=vL V8 x
def aUu (st:St) (s g:Nat) (x:AV):dJ prog st 37 (.own s g) x=zF 100 34 48 (st.heap s g) s g (aV st x):=sF V8 s g x
def aUv (st:St) (s g:Nat) (kk:IntKind) (i:Int):bI prog st 37 (.own s g) (.v (.int kk i))=PO 100 34 (st.heap s g) s g i:=Mp aKq V8 s g kk i
def aUw {call:Nat->List AV->Option AV} {ops:Array Oper} {st:St} {T:Nat} {pos:String} {fB:Array Edge} (d:Nat):cI prog call ops ⟨some d,.buildSlice 37 0 #[],T,pos,fB,none⟩ st=some ((st.new d (.row 100 34 0 [])).put (some d) (.own d (st.aQ d))):=Vv V8 aHi d
def aUx (st:St) (x:AV):dJ prog st 44 (.v (.slice none 0 0)) x=zQ 87 67 104 (aV st x):=vL aCR x
def aUy (st:St) (s g:Nat) (x:AV):dJ prog st 44 (.own s g) x=zF 87 67 104 (st.heap s g) s g (aV st x):=sF aCR s g x
def aUz {call:Nat->List AV->Option AV} {ops:Array Oper} {st:St} {T:Nat} {pos:String} {fB:Array Edge} (d:Nat) (x:Operand):cI prog call ops ⟨some d,.buildSlice 44 1 #[(0,x)],T,pos,fB,none⟩ st=U4 67 (st.ev x) (fun cs=>some ((st.new d (.row 87 67 1 cs)).put (some d) (.own d (st.aQ d)))) (cI prog call ops ⟨some d,.buildSlice 44 1 #[(0,x)],T,pos,fB,none⟩ st):=Dd aCR aNw (by rfl) (by decide) d x
def aUA (st:St) (x:AV):dJ prog st 45 (.v (.slice none 0 0)) x=zQ 74 238 336 (aV st x):=vL nF x
def aUB (st:St) (s g:Nat) (x:AV):dJ prog st 45 (.own s g) x=zF 74 238 336 (st.heap s g) s g (aV st x):=sF nF s g x
def aUC (st:St) (s g:Nat) (kk:IntKind) (i:Int):bI prog st 45 (.own s g) (.v (.int kk i))=PO 74 238 (st.heap s g) s g i:=Mp aKr nF s g kk i
def aUD {call:Nat->List AV->Option AV} {ops:Array Oper} {st:St} {T:Nat} {pos:String} {fB:Array Edge} (d:Nat):cI prog call ops ⟨some d,.buildSlice 45 0 #[],T,pos,fB,none⟩ st=some ((st.new d (.row 74 238 0 [])).put (some d) (.own d (st.aQ d))):=Vv nF aBC d
def aUE {call:Nat->List AV->Option AV} {ops:Array Oper} {st:St} {T:Nat} {pos:String} {fB:Array Edge} (d:Nat) (x:Operand):cI prog call ops ⟨some d,.buildSlice 45 1 #[(0,x)],T,pos,fB,none⟩ st=U4 238 (st.ev x) (fun cs=>some ((st.new d (.row 74 238 1 cs)).put (some d) (.own d (st.aQ d)))) (cI prog call ops ⟨some d,.buildSlice 45 1 #[(0,x)],T,pos,fB,none⟩ st):=Dd nF aBC (by rfl) (by decide) d x
def aUF {call:Nat->List AV->Option AV} {ops:Array Oper} {st:St} {T:Nat} {pos:String} {fB:Array Edge} (d:Nat):cI prog call ops ⟨some d,.buildSlice 48 0 #[],T,pos,fB,none⟩ st=some ((st.new d (.row 76 240 0 [])).put (some d) (.own d (st.aQ d))):=Vv KV aJy d
def aUG (st:St) (x:AV):dJ prog st 51 (.v (.slice none 0 0)) x=zQ 118 34 64 (aV st x):=vL Va x
def aUH (st:St) (s g:Nat) (x:AV):dJ prog st 51 (.own s g) x=zF 118 34 64 (st.heap s g) s g (aV st x):=sF Va s g x
def aUI (st:St) (s g:Nat) (kk:IntKind) (i:Int):bI prog st 51 (.own s g) (.v (.int kk i))=PO 118 34 (st.heap s g) s g i:=Mp aKt Va s g kk i
def aUJ {call:Nat->List AV->Option AV} {ops:Array Oper} {st:St} {T:Nat} {pos:String} {fB:Array Edge} (d:Nat) (x:Operand):cI prog call ops ⟨some d,.buildSlice 51 1 #[(0,x)],T,pos,fB,none⟩ st=U4 34 (st.ev x) (fun cs=>some ((st.new d (.row 118 34 1 cs)).put (some d) (.own d (st.aQ d)))) (cI prog call ops ⟨some d,.buildSlice 51 1 #[(0,x)],T,pos,fB,none⟩ st):=Dd Va aBB (by rfl) (by decide) d x
def aUK (st:St) (x:AV):dJ prog st 54 (.v (.slice none 0 0)) x=zQ 63 35 56 (aV st x):=vL Ux x
def aUL (st:St) (s g:Nat) (x:AV):dJ prog st 54 (.own s g) x=zF 63 35 56 (st.heap s g) s g (aV st x):=sF Ux s g x
def aUM (st:St) (s g:Nat) (kk:IntKind) (i:Int):bI prog st 54 (.own s g) (.v (.int kk i))=PO 63 35 (st.heap s g) s g i:=Mp aKu Ux s g kk i
def aUN {call:Nat->List AV->Option AV} {ops:Array Oper} {st:St} {T:Nat} {pos:String} {fB:Array Edge} (d:Nat) (x:Operand):cI prog call ops ⟨some d,.buildSlice 54 1 #[(0,x)],T,pos,fB,none⟩ st=U4 35 (st.ev x) (fun cs=>some ((st.new d (.row 63 35 1 cs)).put (some d) (.own d (st.aQ d)))) (cI prog call ops ⟨some d,.buildSlice 54 1 #[(0,x)],T,pos,fB,none⟩ st):=Dd Ux aNH (by rfl) (by decide) d x
def aUO (st:St) (s g:Nat) (x:AV):dJ prog st 70 (.own s g) x=zF 27 32 32 (st.heap s g) s g (aV st x):=sF aFP s g x
def aUP {call:Nat->List AV->Option AV} {ops:Array Oper} {st:St} {T:Nat} {pos:String} {fB:Array Edge} (d:Nat) (x:Operand):cI prog call ops ⟨some d,.buildSlice 70 1 #[(0,x)],T,pos,fB,none⟩ st=U4 32 (st.ev x) (fun cs=>some ((st.new d (.row 27 32 1 cs)).put (some d) (.own d (st.aQ d)))) (cI prog call ops ⟨some d,.buildSlice 70 1 #[(0,x)],T,pos,fB,none⟩ st):=Dd aFP aNo (by rfl) (by decide) d x
def aN3 (st:St) (s g:Nat) (kk:IntKind) (i:Int):bI prog st 109 (.own s g) (.v (.int kk i))=PO 41 33 (st.heap s g) s g i:=Mp aCS QU s g kk i
def aN4 {call:Nat->List AV->Option AV} {ops:Array Oper} {st:St} {T:Nat} {pos:String} {fB:Array Edge} (d:Nat) (x:Operand):cI prog call ops ⟨some d,.buildSlice 109 1 #[(0,x)],T,pos,fB,none⟩ st=U4 33 (st.ev x) (fun cs=>some ((st.new d (.row 41 33 1 cs)).put (some d) (.own d (st.aQ d)))) (cI prog call ops ⟨some d,.buildSlice 109 1 #[(0,x)],T,pos,fB,none⟩ st):=Dd QU aHQ (by rfl) (by decide) d x
def aN5 (st:St) (x:AV):dJ prog st 124 (.v (.slice none 0 0)) x=zQ 190 446 720 (aV st x):=vL L3 x
def aN6 (st:St) (s g:Nat) (x:AV):dJ prog st 124 (.own s g) x=zF 190 446 720 (st.heap s g) s g (aV st x):=sF L3 s g x
def aN7 {call:Nat->List AV->Option AV} {ops:Array Oper} {st:St} {T:Nat} {pos:String} {fB:Array Edge} (d:Nat) (x:Operand):cI prog call ops ⟨some d,.buildSlice 124 1 #[(0,x)],T,pos,fB,none⟩ st=U4 446 (st.ev x) (fun cs=>some ((st.new d (.row 190 446 1 cs)).put (some d) (.own d (st.aQ d)))) (cI prog call ops ⟨some d,.buildSlice 124 1 #[(0,x)],T,pos,fB,none⟩ st):=Dd L3 aHk (by rfl) (by decide) d x
def aN8 {call:Nat->List AV->Option AV} {ops:Array Oper} {st:St} {T:Nat} {pos:String} {fB:Array Edge} (d:Nat) (x:Operand):cI prog call ops ⟨some d,.buildSlice 181 1 #[(0,x)],T,pos,fB,none⟩ st=U4 96 (st.ev x) (fun cs=>some ((st.new d (.row 56 96 1 cs)).put (some d) (.own d (st.aQ d)))) (cI prog call ops ⟨some d,.buildSlice 181 1 #[(0,x)],T,pos,fB,none⟩ st):=Dd aHl aNI (by rfl) (by decide) d x
def aN9 (st:St) (x:AV):dJ prog st 236 (.v (.slice none 0 0)) x=zQ 5 1 1 (aV st x):=vL L4 x
def aOa (st:St) (s g:Nat) (x:AV):dJ prog st 236 (.own s g) x=zF 5 1 1 (st.heap s g) s g (aV st x):=sF L4 s g x
def aOb {call:Nat->List AV->Option AV} {ops:Array Oper} {st:St} {T:Nat} {pos:String} {fB:Array Edge} (d:Nat) (x:Operand):cI prog call ops ⟨some d,.buildSlice 236 1 #[(0,x)],T,pos,fB,none⟩ st=elV (st.ev x) (fun y=>some ((st.new d (.row 5 1 1 [.v y])).put (some d) (.own d (st.aQ d)))) (cI prog call ops ⟨some d,.buildSlice 236 1 #[(0,x)],T,pos,fB,none⟩ st):=NR L4 ze5 d x
def aOc (st:St) (x:AV):dJ prog st 262 (.v (.slice none 0 0)) x=zQ 4 1 1 (aV st x):=vL WR x
def aOd (st:St) (s g:Nat) (x:AV):dJ prog st 262 (.own s g) x=zF 4 1 1 (st.heap s g) s g (aV st x):=sF WR s g x
def aOe {call:Nat->List AV->Option AV} {ops:Array Oper} {st:St} {T:Nat} {pos:String} {fB:Array Edge} (d:Nat) (x:Operand):cI prog call ops ⟨some d,.buildSlice 262 1 #[(0,x)],T,pos,fB,none⟩ st=elV (st.ev x) (fun y=>some ((st.new d (.row 4 1 1 [.v y])).put (some d) (.own d (st.aQ d)))) (cI prog call ops ⟨some d,.buildSlice 262 1 #[(0,x)],T,pos,fB,none⟩ st):=NR WR ze4 d x
def aG4:Fa Tryz.f164=true:=by kernel_rfl
def aMi:Fa Tryz.f215=true:=by kernel_rfl
def aMj:Fa Tryz.f226=true:=by kernel_rfl
def aMt:Fa Tryz.f227=true:=by kernel_rfl
def aMk:Ua Tryz.f228=true:=by kernel_rfl
def aMu:Fa Tryz.f229=true:=by kernel_rfl
def aMv:Fa Tryz.f230=true:=by kernel_rfl
def aMw:Ua Tryz.f231=true:=by kernel_rfl
end Go.Ab.Tryz
