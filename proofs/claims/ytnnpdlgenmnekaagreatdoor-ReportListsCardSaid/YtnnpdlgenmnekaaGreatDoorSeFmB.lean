/- the report of a run: the function Format, as a row -/
import Derived.Test.YtnnpdlgenmnekaaGreatDoorSeFmA
set_option linter.unusedVariables false
set_option linter.unusedSimpArgs false
set_option maxRecDepth 100000
noncomputable section
namespace Go.Bm
open Go.Proofs Go.RowKit
abbrev Ac:List Kd:=[Kd.sl [Kd.int .i64,Kd.int .i64,Kd.int .i64],Kd.sl [Kd.int .i64],Kd.int .i64,Kd.int .i64,Kd.int .i64,Kd.int .i64,Kd.int .i64,Kd.int .i64,Kd.int .i64]
abbrev M6:List CS:=[CS.sl [Kd.int .i64,Kd.int .i64,Kd.int .i64],CS.sl [Kd.int .i64],CS.int .i64,CS.int .i64,CS.int .i64,CS.int .i64,CS.int .i64,CS.int .i64,CS.int .i64]
def Es:Sk:={tmps:=[TS.v false [CS.int .i64],TS.v true M6],aB:=[],aC:=[]}
def EI:Sk:={tmps:=[TS.v false [CS.sl Ac]],aB:=[],aC:=[]}
def EZ:Sk:=Cf
noncomputable def D1:Code:=match CT Tryz.prog 31 with
 |some c=>c
 |none=> .skip
def cs1:Code->Code
 | .seq a _=>a
 |c=>c
def cs2:Code->Code
 | .seq _ b=>b
 |c=>c
def cbd:Code->Code
 | .block _ c=>c
 | .loop c=>c
 |c=>c
def cth:Code->Code
 | .cond _ x _=>x
 |c=>c
def BR:Code->Array Oper
 | .region _ o _=>o
 |_=> #[]
noncomputable def cM:Code:=cs1 (cs2 (cs2 D1))
noncomputable def cT:Code:=cs2 (cs2 (cs2 D1))
noncomputable def cLB:Code:=cbd (cbd (cs2 cM))
noncomputable def cR3:Code:=cs1 cLB
noncomputable def cBB:Code:=cbd (cs1 (cs2 (cs2 cLB)))
noncomputable def cR7:Code:=cs2 (cs2 (cs2 cLB))
noncomputable def cR4:Code:=cs1 cBB
noncomputable def cR5:Code:=cs1 (cs2 cBB)
noncomputable def cR6:Code:=cth (cs2 (cs2 cBB))
theorem TQ:D1= .seq (cs1 D1) (.seq (cs1 (cs2 D1)) (.seq (.seq (cs1 cM) (.block 0 (.loop cLB))) (.seq (cs1 cT) .ret))):=by kernel_rfl
theorem Kc:cLB= .seq cR3 (.seq (.cond (.tmp 9) .skip (.exit 0)) (.seq (.block 1 (.seq cR4 (.seq cR5 (.cond (.tmp 42) cR6 .skip)))) cR7)):=by kernel_rfl
theorem SN:cR6= .region 6 (BR cR6) false:=by kernel_rfl
theorem Td:cs1 cT= .region 8 (BR (cs1 cT)) false:=by kernel_rfl
def dn:Nat->List TS
 |0=>[]
 |n+1=> .vD::dn n
abbrev vL:TS:= .v false [CS.sl Ac]
abbrev vI:TS:= .v false [CS.int .i64]
abbrev vP:TS:= .v false [CS.rawc]
abbrev vB:TS:= .v false [CS.bool]
abbrev vS:TS:= .v false [CS.str]
def sk0:Sk:=⟨[vL, .vD, .vD,vP]++dn 45,[],[]⟩
def skH:Sk:=⟨[vL, .vD, .vD,vP, .vD, .vD,vL,vI,vI]++dn 40,[],[]⟩
def skA:Sk:=⟨[vL, .vD, .vD,vP, .vD, .vD,vL,vI,vI,vB]++dn 39,[],[]⟩
def skB:Sk:=⟨[vL, .vD, .vD,vP,vI, .v false [CS.ptr 5 0],vL,vI,vI]++dn 33++[vB]++dn 6,[(5,61,M6)],[]⟩
def skC:Sk:=⟨[vL, .vD, .vD,vP, .vD, .vD,vL,vI,vI]++dn 36++[vS]++dn 3,[],[]⟩
def skE:Sk:=⟨[.vD, .vD, .vD,vP]++dn 45,[],[]⟩
def kN (sk:Sk):Ex->St->Option (List AC):=λe s=>match e with
 | .normal=>AN sk s
 |_=>none
noncomputable def C31 (ML:List AC->Option (List AC)):Cfg:={spec:=CE [(76,Aj Es Cf ML)]}
theorem Pd {ML:List AC->Option (List AC)} (h:Av Tryz.prog (76,Aj Es Cf ML)):Ak Tryz.prog (C31 ML):=BY rfl ⟨h,trivial⟩
noncomputable def C30:Cfg:={spec:=CE []}
theorem Bq:Ak Tryz.prog C30:=BY rfl trivial
theorem C4:Tryz.prog.follows .mixedOrders=true:=by kernel_rfl
theorem HU {C:Cfg} {c:Code} {blk:Nat} (h1:C.loops=λ_=>none) (h2:C.blocks=λ_=>none) (h3:C.conds=λ_=>none):SubOK Tryz.prog C c blk:=
 ⟨λp _ sk g h=>(by rw[h1]at h;cases h),λp _ sk g h=>(by rw[h2]at h;cases h),λp _ sk g h=>(by rw[h3]at h;cases h)⟩
noncomputable def u2 (vars:List AC):Option (List AC):=Ax Tryz.prog C30 64 (cs1 cM) 0 (Ag sk0 vars) (kN skH)
noncomputable def uA (vars:List AC):Option (List AC):=Ax Tryz.prog C30 64 cR3 0 (Ag skH vars) (kN skA)
noncomputable def uB (vars:List AC):Option (List AC):=Ax Tryz.prog C30 64 (.seq cR4 cR5) 1 (Ag skA vars) (kN skB)
noncomputable def uC (ML:List AC->Option (List AC)) (vars:List AC):Option (List AC):=AF Tryz.prog (C31 ML) (BR cR6).toList ((BR cR6).toList.take 3) (Ag skB vars) (AN skC)
noncomputable def uD (vars:List AC):Option (List AC):=Ax Tryz.prog C30 64 cR7 0 (Ag skH vars) (kN skH)
theorem S_ (l:List (List AC)) (p:Value):u2 [.vC Ac l, .raw p]=some [.vC Ac l, .raw p, .vC Ac l, .int .i64 (l.length:Int), .int .i64 0]:=by kernel_rfl
theorem KP (l:List (List AC)) (p:Value) (n k:Int):uA [.vC Ac l, .raw p, .vC Ac l, .int .i64 n, .int .i64 k]=some [.vC Ac l, .raw p, .vC Ac l, .int .i64 n, .int .i64 k, .bool (decide (k<n))]:=by kernel_rfl
def vB5 (l:List (List AC)) (p:Value) (n k:Int) (q:Bool):List AC:=[.vC Ac l, .raw p, .int .i64 k, .vC Ac l, .int .i64 n, .int .i64 k, .bool q]++Ap Ac (nth [] l k.toNat)
theorem SM (l:List (List AC)) (p:Value) (n k:Int) (q:Bool):uB [.vC Ac l, .raw p, .vC Ac l, .int .i64 n, .int .i64 k, .bool q]=
  cond (decide (0 <= k) && decide (k < (l.length : Int))) (cond (k == 0) (some (vB5 l p n k true))
   (cond (decide (0 <= V (k - 1)) && decide (V (k - 1) < (l.length : Int)))
    (cond (Ad (nth .vD (nth [] l k.toNat) 2) != Ad (nth .vD (nth [] l (V (k - 1)).toNat) 2)) (some (vB5 l p n k true))
     (cond (decide (0 <= V (k - 1)) && decide (V (k - 1) < (l.length : Int)))
      (cond (Ad (nth .vD (nth [] l k.toNat) 8) != Ad (nth .vD (nth [] l (V (k - 1)).toNat) 8)) (some (vB5 l p n k true))
       (some (vB5 l p n k (decide (((Aq (nth .vD (nth [] l k.toNat) 1)).length:Int)>0))))) none)) none)) none:=by kernel_rfl
theorem Ra (ML:List AC->Option (List AC)) (l:List (List AC)) (p:Value) (n k:Int) (q:Bool):uC ML (vB5 l p n k q)=
  (ML (.int .i64 k::Ap Ac (nth [] l k.toNat))).bind λo=>some [.vC Ac l, .raw p, .vC Ac l, .int .i64 n, .int .i64 k, .raw (.string (Ah (nth .vD o 0)))]:=by kernel_rfl
theorem Ss (l:List (List AC)) (p:Value) (n k:Int):uD [.vC Ac l, .raw p, .vC Ac l, .int .i64 n, .int .i64 k]=some [.vC Ac l, .raw p, .vC Ac l, .int .i64 n, .int .i64 (V (k+1))]:=by kernel_rfl
theorem TM (l:List (List AC)) (p:Value) (n k:Int) (q:Bool):AN skH (Ag skB (vB5 l p n k q))=some [.vC Ac l, .raw p, .vC Ac l, .int .i64 n, .int .i64 k]:=by kernel_rfl
theorem PH (l:List (List AC)) (p:Value) (n k:Int) (s:ByteArray):AN skH (Ag skC [.vC Ac l, .raw p, .vC Ac l, .int .i64 n, .int .i64 k, .raw (.string s)])=some [.vC Ac l, .raw p, .vC Ac l, .int .i64 n, .int .i64 k]:=by kernel_rfl
theorem TA (l:List (List AC)) (p:Value) (n k:Int) (q:Bool):AN skE (Ag skA [.vC Ac l, .raw p, .vC Ac l, .int .i64 n, .int .i64 k, .bool q])=some [.raw p]:=by kernel_rfl
def Ds (l:List (List AC)) (k:Nat):Bool:=
 k==0||Ad (nth .vD (nth [] l k) 2) !=Ad (nth .vD (nth [] l (k-1)) 2)||Ad (nth .vD (nth [] l k) 8) !=Ad (nth .vD (nth [] l (k-1)) 8)||decide (((Aq (nth .vD (nth [] l k) 1)).length:Int)>0)
def BS (ML:List AC->Option (List AC)) (l:List (List AC)):Nat->Option (List UInt8)
 |0=>some []
 |k+1=>(BS ML l k).bind λbs=>cond (Ds l k)
   ((ML (.int .i64 (k:Int)::Ap Ac (nth [] l k))).bind λo=>cond (Nat.ble (bs.length+(Ah (nth .vD o 0)).size) 140737488355328) (some (bs++(Ah (nth .vD o 0)).data.toList)) none)
   (some bs)
def GC (ML:List AC->Option (List AC)) (vars:List AC):Option (List AC):=
 cond (Nat.ble (Aq (nth .vD vars 0)).length 4611686018427387904) ((BS ML (Aq (nth .vD vars 0)) (Aq (nth .vD vars 0)).length).bind λbs=>some [.raw (.string ⟨bs.toArray⟩)]) none
theorem Uv {l:List (List AC)} {p:Value} {k:Nat} {q:Bool} (N:k<l.length) (O:l.length<=4611686018427387904):uB [.vC Ac l, .raw p, .vC Ac l, .int .i64 (l.length:Int), .int .i64 (k:Int), .bool q]=some (vB5 l p l.length k (Ds l k)):=by
 rw[SM];have D:(decide (0<=(k:Int))&&decide ((k:Int)<(l.length:Int)))=true:=by simp;omega
 rw[D,ac];unfold Ds;rw[aw];by_cases A:k=0
 ·subst A;rfl
 ·have E:((k:Int)==0)=false:=by simp;omega
  have G:V ((k:Int)-1)=((k-1:Nat):Int):=by rw[BW];omega
  have J:(decide (0<=((k-1:Nat):Int))&&decide (((k-1:Nat):Int)<(l.length:Int)))=true:=by simp;omega
  have L:(k==0)=false:=by simp[A]
  rw[E,aj,G,J,ac,ac,aw,L];generalize(Ad (nth .vD (nth [] l k) 2) !=Ad (nth .vD (nth [] l (k-1)) 2))=x;generalize(Ad (nth .vD (nth [] l k) 8) !=Ad (nth .vD (nth [] l (k-1)) 8))=y;cases x<;>cases y<;>rfl
end Go.Bm
