/- the report of a run: the function Format, as a row -/
import Derived.Test.YtnnpdlgenmnekaaGreatDoorSeFmA
set_option linter.unusedVariables false
set_option linter.unusedSimpArgs false
set_option maxRecDepth 100000
noncomputable section
namespace Go.Bm
open Go.Proofs Go.RowKit
abbrev A1:List Kd:=[Kd.sl [Kd.int .i64,Kd.int .i64,Kd.int .i64],Kd.sl [Kd.int .i64],Kd.int .i64,Kd.int .i64,Kd.int .i64,Kd.int .i64,Kd.int .i64,Kd.int .i64,Kd.int .i64]
abbrev Zd9:List CS:=[CS.sl [Kd.int .i64,Kd.int .i64,Kd.int .i64],CS.sl [Kd.int .i64],CS.int .i64,CS.int .i64,CS.int .i64,CS.int .i64,CS.int .i64,CS.int .i64,CS.int .i64]
def L8:Sk:={tmps:=[TS.v false [CS.int .i64],TS.v true Zd9],aB:=[],aC:=[]}
def Qd:Sk:={tmps:=[TS.v false [CS.sl A1]],aB:=[],aC:=[]}
def Rt:Sk:=GJ
noncomputable def KN:Code:=match FN Tryz.prog 31 with
 |some c=>c
 |none=> .skip
def cs1:Code->Code
 | .seq a _=>a
 |c=>c
def cs2:Code->Code
 | .seq _ b=>b
 |c=>c
def cbd:Code->Code
 | .block _ c=>c
 | .loop c=>c
 |c=>c
def cth:Code->Code
 | .cond _ x _=>x
 |c=>c
def G3:Code->Array Oper
 | .region _ o _=>o
 |_=> #[]
noncomputable def cM:Code:=cs1 (cs2 (cs2 KN))
noncomputable def cT:Code:=cs2 (cs2 (cs2 KN))
noncomputable def cLB:Code:=cbd (cbd (cs2 cM))
noncomputable def cR3:Code:=cs1 cLB
noncomputable def cBB:Code:=cbd (cs1 (cs2 (cs2 cLB)))
noncomputable def cR7:Code:=cs2 (cs2 (cs2 cLB))
noncomputable def cR4:Code:=cs1 cBB
noncomputable def cR5:Code:=cs1 (cs2 cBB)
noncomputable def cR6:Code:=cth (cs2 (cs2 cBB))
theorem Ygn:KN= .seq (cs1 KN) (.seq (cs1 (cs2 KN)) (.seq (.seq (cs1 cM) (.block 0 (.loop cLB))) (.seq (cs1 cT) .ret))):=by kernel_rfl
theorem Qyc:cLB= .seq cR3 (.seq (.cond (.tmp 9) .skip (.exit 0)) (.seq (.block 1 (.seq cR4 (.seq cR5 (.cond (.tmp 42) cR6 .skip)))) cR7)):=by kernel_rfl
theorem Yab:cR6= .region 6 (G3 cR6) false:=by kernel_rfl
theorem Ycb:cs1 cT= .region 8 (G3 (cs1 cT)) false:=by kernel_rfl
def dn:Nat->List TS
 |0=>[]
 |n+1=> .vD::dn n
abbrev vL:TS:= .v false [CS.sl A1]
abbrev vI:TS:= .v false [CS.int .i64]
abbrev vP:TS:= .v false [CS.rawc]
abbrev vB:TS:= .v false [CS.bool]
abbrev vS:TS:= .v false [CS.str]
def sk0:Sk:=⟨[vL, .vD, .vD,vP]++dn 45,[],[]⟩
def skH:Sk:=⟨[vL, .vD, .vD,vP, .vD, .vD,vL,vI,vI]++dn 40,[],[]⟩
def skA:Sk:=⟨[vL, .vD, .vD,vP, .vD, .vD,vL,vI,vI,vB]++dn 39,[],[]⟩
def skB:Sk:=⟨[vL, .vD, .vD,vP,vI, .v false [CS.ptr 5 0],vL,vI,vI]++dn 33++[vB]++dn 6,[(5,61,Zd9)],[]⟩
def skC:Sk:=⟨[vL, .vD, .vD,vP, .vD, .vD,vL,vI,vI]++dn 36++[vS]++dn 3,[],[]⟩
def skE:Sk:=⟨[.vD, .vD, .vD,vP]++dn 45,[],[]⟩
def kN (sk:Sk):Ex->St->Option (List AC):=λe s=>match e with
 | .normal=>DC sk s
 |_=>none
noncomputable def C31 (ML:List AC->Option (List AC)):Cfg:={spec:=FX [(76,Ab L8 GJ ML)]}
theorem Zrx {ML:List AC->Option (List AC)} (h:Ak Tryz.prog (76,Ab L8 GJ ML)):Ai Tryz.prog (C31 ML):=An rfl ⟨h,trivial⟩
noncomputable def C30:Cfg:={spec:=FX []}
theorem Jp:Ai Tryz.prog C30:=An rfl trivial
theorem UL:Tryz.prog.follows .mixedOrders=true:=by kernel_rfl
theorem Ztg {C:Cfg} {c:Code} {blk:Nat} (D:C.loops=λ_=>none) (G:C.blocks=λ_=>none) (I:C.conds=λ_=>none):SubOK Tryz.prog C c blk:=
 ⟨λp _ sk g h=>(by rw[D]at h;cases h),λp _ sk g h=>(by rw[G]at h;cases h),λp _ sk g h=>(by rw[I]at h;cases h)⟩
noncomputable def u2 (vars:List AC):Option (List AC):=Bq Tryz.prog C30 64 (cs1 cM) 0 (AF sk0 vars) (kN skH)
noncomputable def uA (vars:List AC):Option (List AC):=Bq Tryz.prog C30 64 cR3 0 (AF skH vars) (kN skA)
noncomputable def uB (vars:List AC):Option (List AC):=Bq Tryz.prog C30 64 (.seq cR4 cR5) 1 (AF skA vars) (kN skB)
noncomputable def uC (ML:List AC->Option (List AC)) (vars:List AC):Option (List AC):=Io Tryz.prog (C31 ML) (G3 cR6).toList ((G3 cR6).toList.take 3) (AF skB vars) (DC skC)
noncomputable def uD (vars:List AC):Option (List AC):=Bq Tryz.prog C30 64 cR7 0 (AF skH vars) (kN skH)
theorem Ybv (l:List (List AC)) (p:Value):u2 [.vC A1 l, .raw p]=some [.vC A1 l, .raw p, .vC A1 l, .int .i64 (l.length:Int), .int .i64 0]:=by kernel_rfl
theorem Q1k (l:List (List AC)) (p:Value) (n k:Int):uA [.vC A1 l, .raw p, .vC A1 l, .int .i64 n, .int .i64 k]=some [.vC A1 l, .raw p, .vC A1 l, .int .i64 n, .int .i64 k, .bool (decide (k<n))]:=by kernel_rfl
def vB5 (l:List (List AC)) (p:Value) (n k:Int) (q:Bool):List AC:=[.vC A1 l, .raw p, .int .i64 k, .vC A1 l, .int .i64 n, .int .i64 k, .bool q]++AE A1 (nth [] l k.toNat)
theorem Z98 (l:List (List AC)) (p:Value) (n k:Int) (q:Bool):uB [.vC A1 l, .raw p, .vC A1 l, .int .i64 n, .int .i64 k, .bool q]=
  cond (decide (0 <= k) && decide (k < (l.length : Int))) (cond (k == 0) (some (vB5 l p n k true))
   (cond (decide (0 <= O (k - 1)) && decide (O (k - 1) < (l.length : Int)))
    (cond (Ah (nth .vD (nth [] l k.toNat) 2) != Ah (nth .vD (nth [] l (O (k - 1)).toNat) 2)) (some (vB5 l p n k true))
     (cond (decide (0 <= O (k - 1)) && decide (O (k - 1) < (l.length : Int)))
      (cond (Ah (nth .vD (nth [] l k.toNat) 8) != Ah (nth .vD (nth [] l (O (k - 1)).toNat) 8)) (some (vB5 l p n k true))
       (some (vB5 l p n k (decide (((AX (nth .vD (nth [] l k.toNat) 1)).length:Int)>0))))) none)) none)) none:=by kernel_rfl
theorem Z3t (ML:List AC->Option (List AC)) (l:List (List AC)) (p:Value) (n k:Int) (q:Bool):uC ML (vB5 l p n k q)=
  (ML (.int .i64 k::AE A1 (nth [] l k.toNat))).bind λo=>some [.vC A1 l, .raw p, .vC A1 l, .int .i64 n, .int .i64 k, .raw (.string (Bd (nth .vD o 0)))]:=by kernel_rfl
theorem Z80 (l:List (List AC)) (p:Value) (n k:Int):uD [.vC A1 l, .raw p, .vC A1 l, .int .i64 n, .int .i64 k]=some [.vC A1 l, .raw p, .vC A1 l, .int .i64 n, .int .i64 (O (k+1))]:=by kernel_rfl
theorem Ygi (l:List (List AC)) (p:Value) (n k:Int) (q:Bool):DC skH (AF skB (vB5 l p n k q))=some [.vC A1 l, .raw p, .vC A1 l, .int .i64 n, .int .i64 k]:=by kernel_rfl
theorem Zt4 (l:List (List AC)) (p:Value) (n k:Int) (s:ByteArray):DC skH (AF skC [.vC A1 l, .raw p, .vC A1 l, .int .i64 n, .int .i64 k, .raw (.string s)])=some [.vC A1 l, .raw p, .vC A1 l, .int .i64 n, .int .i64 k]:=by kernel_rfl
theorem Yer (l:List (List AC)) (p:Value) (n k:Int) (q:Bool):DC skE (AF skA [.vC A1 l, .raw p, .vC A1 l, .int .i64 n, .int .i64 k, .bool q])=some [.raw p]:=by kernel_rfl
def Rh (l:List (List AC)) (k:Nat):Bool:=
 k==0||Ah (nth .vD (nth [] l k) 2) !=Ah (nth .vD (nth [] l (k-1)) 2)||Ah (nth .vD (nth [] l k) 8) !=Ah (nth .vD (nth [] l (k-1)) 8)||decide (((AX (nth .vD (nth [] l k) 1)).length:Int)>0)
def Gh (ML:List AC->Option (List AC)) (l:List (List AC)):Nat->Option (List UInt8)
 |0=>some []
 |k+1=>(Gh ML l k).bind λbs=>cond (Rh l k)
   ((ML (.int .i64 (k:Int)::AE A1 (nth [] l k))).bind λo=>cond (Nat.ble (bs.length+(Bd (nth .vD o 0)).size) 140737488355328) (some (bs++(Bd (nth .vD o 0)).data.toList)) none)
   (some bs)
def QZ (ML:List AC->Option (List AC)) (vars:List AC):Option (List AC):=
 cond (Nat.ble (AX (nth .vD vars 0)).length 4611686018427387904) ((Gh ML (AX (nth .vD vars 0)) (AX (nth .vD vars 0)).length).bind λbs=>some [.raw (.string ⟨bs.toArray⟩)]) none
theorem Ykb {l:List (List AC)} {p:Value} {k:Nat} {q:Bool} (S:k<l.length) (T:l.length<=4611686018427387904):uB [.vC A1 l, .raw p, .vC A1 l, .int .i64 (l.length:Int), .int .i64 (k:Int), .bool q]=some (vB5 l p l.length k (Rh l k)):=by
 rw[Z98];have G:(decide (0<=(k:Int))&&decide ((k:Int)<(l.length:Int)))=true:=by simp;omega
 rw[G,aj];unfold Rh;rw[af];by_cases D:k=0
 ·subst D;rfl
 ·have I:((k:Int)==0)=false:=by simp;omega
  have L:O ((k:Int)-1)=((k-1:Nat):Int):=by rw[Ad];omega
  have M:(decide (0<=((k-1:Nat):Int))&&decide (((k-1:Nat):Int)<(l.length:Int)))=true:=by simp;omega
  have N:(k==0)=false:=by simp[D]
  rw[I,aq,L,M,aj,aj,af,N];generalize(Ah (nth .vD (nth [] l k) 2) !=Ah (nth .vD (nth [] l (k-1)) 2))=x;generalize(Ah (nth .vD (nth [] l k) 8) !=Ah (nth .vD (nth [] l (k-1)) 8))=y;cases x<;>cases y<;>rfl
end Go.Bm
