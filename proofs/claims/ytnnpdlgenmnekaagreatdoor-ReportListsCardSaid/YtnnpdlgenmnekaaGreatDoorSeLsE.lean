/- a law's loop in which a slice in a row's cell grows: one number is put behind the slice -/
import Derived.Test.YtnnpdlgenmnekaaGreatDoorSeLsD
set_option linter.unusedVariables false
set_option linter.unusedSimpArgs false
set_option maxRecDepth 100000
noncomputable section
namespace Go.Bm
open Go.Proofs Go.RowKit
def oN (i:Nat):Oper:=(BR cS16).toList.getD i ⟨none, .move (.const .nilIface),0, "", #[],none⟩
def skM:Sk:=⟨[vL, .vD, .vD,vO,vI, .vD,vI]++dn 14++[vI,vI]++dn 56++[vQ,vI,vI]++dn 3++[vO,vI,vO,vI]++dn 3++[vI]++dn 62,[],rR⟩
def skT:Sk:=⟨[vL, .vD, .vD,vO,vI]++dn 16++[vI,vI]++dn 56++[vQ,vI,vI]++dn 3++[vO,vI]++dn 4++[vP, .vD, .vD,vQ]++dn 60,[],rR⟩
def skU:Sk:=⟨[vL, .vD, .vD,vO,vI]++dn 16++[vI,vI]++dn 56++[vQ,vI,vI]++dn 3++[vO,vI]++dn 8++[vP]++dn 59,[],rR⟩
abbrev ops16:Array Oper:=BR cS16
abbrev hN (r l:List (List AC)) (k x n h:Int) (q:List (List AC)) (m j:Int):List AC:=[.vC A1 r, .vC Ac l, .int .i64 k, .int .i64 x, .int .i64 n, .int .i64 h, .vC kInts q, .int .i64 m, .int .i64 j]
abbrev hM (r l:List (List AC)) (k x n h:Int) (q:List (List AC)) (m j:Int):List AC:=hN r l k x n h q m j++[.int .i64 k, .int .i64 k, .int .i64 x]
def s4 (r l:List (List AC)) (k x n h:Int) (q:List (List AC)) (m j:Int):St:=⟨setL (Ag skM (hM r l k x n h q m j)).tmps 89 (.c (.rptr 17 k.toNat 0)),(Ag skM (hM r l k x n h q m j)).aB,(Ag skM (hM r l k x n h q m j)).aC⟩
def s5 (r l:List (List AC)) (k x n h:Int) (q:List (List AC)) (m j:Int):St:=⟨setL (s4 r l k x n h q m j).tmps 90 (.c (.rptr 17 k.toNat 1)),(s4 r l k x n h q m j).aB,(s4 r l k x n h q m j).aC⟩
abbrev hT (r l:List (List AC)) (k n h:Int) (q:List (List AC)) (m j:Int) (v:Value) (y:Int):List AC:=[.vC A1 r, .vC Ac l, .int .i64 k, .int .i64 n, .int .i64 h, .vC kInts q, .int .i64 m, .int .i64 j, .int .i64 k, .raw v, .vC kInts [[.int .i64 y]]]
abbrev hU (r l:List (List AC)) (k n h:Int) (q:List (List AC)) (m j:Int) (v:Value):List AC:=[.vC A1 r, .vC Ac l, .int .i64 k, .int .i64 n, .int .i64 h, .vC kInts q, .int .i64 m, .int .i64 j, .int .i64 k, .raw v]
section
variable (M:List AC->Option (List AC)) (r l:List (List AC)) (k x n h:Int) (q:List (List AC)) (m j:Int)
def inR:Bool:=decide (0<=k)&&decide (k<(r.length:Int))
theorem O5:AF Tryz.prog (C12 M) ops16.toList [oN 0,oN 1,oN 2,oN 3,oN 7] (Ag skN2 (hN r l k x n h q m j)) (AN skM)=some (hM r l k x n h q m j):=by kernel_rfl
theorem R7:AF Tryz.prog (C12 M) ops16.toList [oN 4] (Ag skM (hM r l k x n h q m j)) some=cond (inR r k) (some (s4 r l k x n h q m j)) none:=by kernel_rfl
theorem Tx:AF Tryz.prog (C12 M) ops16.toList [oN 5] (s4 r l k x n h q m j) some=some (s5 r l k x n h q m j):=by kernel_rfl
def MW:Option (List AC):=(M [.int .i64 x, .int .i64 100]).bind λo=>some (hT r l k n h q m j (E3 (nth .vD (nth [] r k.toNat) 1)) (Ad (nth .vD o 0)))
theorem QJ:AF Tryz.prog (C12 M) ops16.toList [oN 6,oN 8,oN 9] (s5 r l k x n h q m j) (AN skT)=MW M r l k x n h q m j:=by kernel_rfl
def kBC (M:List AC->Option (List AC)) (s:St):Option (List AC×List AC):=(AF Tryz.prog (C12 M) ops16.toList [oN 6,oN 9] s (AN skT)).bind λx=>(AF Tryz.prog (C12 M) ops16.toList [oN 9,oN 6] s (AN skT)).bind λy=>some (x,y)
theorem Tn:AF Tryz.prog (C12 M) ops16.toList [oN 8] (s5 r l k x n h q m j) (kBC M)=(M [.int .i64 x, .int .i64 100]).bind λo=>some (hT r l k n h q m j (E3 (nth .vD (nth [] r k.toNat) 1)) (Ad (nth .vD o 0)),hT r l k n h q m j (E3 (nth .vD (nth [] r k.toNat) 1)) (Ad (nth .vD o 0))):=by kernel_rfl
theorem O8 (v:Value) (y:Int):opK Tryz.prog C30 (Ai (Ag skT (hT r l k n h q m j v y)).tmps) (some 95) (oN 10).op some=some (.append 3 kInts 8 (.raw v) (.vC kInts [[.int .i64 y]])):=by kernel_rfl
theorem OX (v A:Value) (y:Int):AN skU ⟨setL (Ag skT (hT r l k n h q m j v y)).tmps 95 (.c (.raw A)),(Ag skT (hT r l k n h q m j v y)).aB,(Ag skT (hT r l k n h q m j v y)).aC⟩=some (hU r l k n h q m j A):=by kernel_rfl
theorem SY (v:Value):AF Tryz.prog C30 ops16.toList [oN 11,oN 12,oN 13] (Ag skU (hU r l k n h q m j v)) (AN skH2)=cond (inR r k) (some (hW (wq r k.toNat (.raw v)) l k n h q m j)) none:=by kernel_rfl
theorem e87:Ai (Ag skM (hM r l k x n h q m j)).tmps (.tmp 87)= .c (.own 17 9 r.length):=by kernel_rfl
theorem e88:Ai (Ag skM (hM r l k x n h q m j)).tmps (.tmp 88)= .c (.int .i64 k):=by kernel_rfl
theorem e89:Ai (s4 r l k x n h q m j).tmps (.tmp 89)= .c (.rptr 17 k.toNat 0):=by kernel_rfl
end
theorem Um:ops16.toList=[oN 0,oN 1,oN 2,oN 3,oN 4,oN 5,oN 6,oN 7,oN 8,oN 9,oN 10,oN 11,oN 12,oN 13]:=by kernel_rfl
theorem Rb:skM.okB=true:=by kernel_rfl
theorem Jq:skT.okB=true:=by kernel_rfl
theorem Pv:skU.okB=true:=by kernel_rfl
theorem He:skH2.okB=true:=by kernel_rfl
theorem MK:skC2.okB=true:=by kernel_rfl
theorem Ph:skN2.okB=true:=by kernel_rfl
theorem Qe:skA1.okB=true:=by kernel_rfl
theorem PV:skA2.okB=true:=by kernel_rfl
theorem Oz:skB1.okB=true:=by kernel_rfl
theorem SG:skR1.okB=true:=by kernel_rfl
end Go.Bm
