/- a law's loop in which a slice in a row's cell grows: the shapes of the states, what the parts do -/
import Derived.Test.YtnnpdlgenmnekaaGreatDoorSeLsA
import Derived.Test.YtnnpdlgenmnekaaGreatDoorMx2
set_option linter.unusedVariables false
set_option linter.unusedSimpArgs false
set_option maxRecDepth 100000
noncomputable section
namespace Go.Bm
open Go.Proofs Go.RowKit
abbrev vO:TS:= .v false [CS.own 17 9]
abbrev A1:List Kd:=List.replicate 9 Kd.raw
abbrev vQ:TS:= .v false [CS.sl kInts]
def rT:List (Nat×TypeId×List Kd):=[(17,61,Ac)]
def rR:List (Nat×TypeId×List Kd):=[(17,61,A1)]
def skB1:Sk:=⟨[vL, .vD, .vD,vO]++dn 17++[vI,vI]++dn 132,[],rT⟩
def skR1:Sk:=⟨[.vD, .vD,vB]++dn 152,[],[]⟩
def skA1:Sk:=⟨[vL, .vD, .vD,vO,vI]++dn 16++[vI,vI]++dn 132,[],rT⟩
def skA2:Sk:=⟨[vL, .vD, .vD,vO,vI]++dn 16++[vI,vI]++dn 132,[],rR⟩
def skH2:Sk:=⟨[vL, .vD, .vD,vO,vI]++dn 16++[vI,vI]++dn 56++[vQ,vI,vI]++dn 73,[],rR⟩
def skC2:Sk:=⟨[vL, .vD, .vD,vO,vI]++dn 16++[vI,vI]++dn 56++[vQ,vI,vI,vB]++dn 72,[],rR⟩
def skN2:Sk:=⟨[vL, .vD, .vD,vO,vI, .vD,vI]++dn 14++[vI,vI]++dn 56++[vQ,vI,vI]++dn 73,[],rR⟩
noncomputable def C12 (M:List AC->Option (List AC)):Cfg:={spec:=CE [DM M]}
def kH:Ex->St->Option (List AC):=λe s=>match e with
 | .normal=>(AN skA1 s).bind λl=>some (.bool false::l)
 | .ret=>(AN skR1 s).bind λl=>some (.bool true::l)
 |_=>none
def cH:Code:= .seq cS8 (.seq cX9 IF)
def uH (M:List AC->Option (List AC)) (vars:List AC):Option (List AC):=Ax Tryz.prog (C12 M) 64 cH 1 (Ag skB1 vars) kH
def uS (vars:List AC):Option (List AC):=Ax Tryz.prog C30 64 (.seq Hy HA) 1 (Ag skA2 vars) (kN skH2)
def u14 (vars:List AC):Option (List AC):=Ax Tryz.prog C30 64 JN 2 (Ag skH2 vars) (kN skC2)
def u15 (vars:List AC):Option (List AC):=Ax Tryz.prog C30 64 Kg 3 (Ag skC2 vars) (kN skN2)
def u17 (vars:List AC):Option (List AC):=Ax Tryz.prog C30 64 MX 2 (Ag skH2 vars) (kN skH2)
def wr (r:List (List AC)) (k:Nat) (j:Nat) (c:AC):List (List AC):=r.set k (setL (Ap Ac (nth [] r k)) j c)
def wq (r:List (List AC)) (k:Nat) (c:AC):List (List AC):=r.set k (setL (Ap A1 (nth [] r k)) 1 c)
def i0 (o:List AC):AC:= .int .i64 (Ad (nth .vD o 0))
theorem JU (M:List AC->Option (List AC)) (r l:List (List AC)) (n k:Int):uH M [.vC Ac r, .vC Ac l, .int .i64 n, .int .i64 k]=
  cond (decide (0 <= k) && decide (k < (l.length : Int))) (cond (decide (((Aq (nth .vD (nth [] l k.toNat) 0)).length : Int) > 40)) (some [.bool true, .bool true])
   (cond (decide (0 <= k) && decide (k < (l.length : Int))) (cond (decide (((Aq (nth .vD (nth [] l k.toNat) 1)).length : Int) > 40)) (some [.bool true, .bool true])
    (cond (decide (0 <= k) && decide (k < (r.length : Int))) ((M [.int .i64 (Ad (nth .vD (nth [] r k.toNat) 2)), .int .i64 9]).bind λo0 =>
     cond (decide (0 <= k) && decide (k < (r.length : Int))) ((M [.int .i64 (Ad (nth .vD (nth [] r k.toNat) 8)), .int .i64 3]).bind λo1 =>
      cond (decide (0 <= k) && decide (k < (r.length : Int))) ((M [.int .i64 (Ad (nth .vD (nth [] r k.toNat) 3)), .int .i64 1000]).bind λo2 =>
       cond (decide (0 <= k) && decide (k < (r.length : Int))) (cond (decide (0 <= k) && decide (k < (r.length : Int))) (cond (decide (0 <= k) && decide (k < (r.length : Int)))
        (some [.bool false, .vC Ac (wr (wr (wr r k.toNat 2 (i0 o0)) k.toNat 8 (i0 o1)) k.toNat 3 (i0 o2)), .vC Ac l, .int .i64 k, .int .i64 n, .int .i64 k])
        none) none) none) none) none) none)) none)) none:=by kernel_rfl
theorem Pz (r l:List (List AC)) (k n j:Int):uS [.vC A1 r, .vC Ac l, .int .i64 k, .int .i64 n, .int .i64 j]=
  cond (decide (0 <= k) && decide (k < (r.length : Int))) (cond (decide (0 <= k) && decide (k < (l.length : Int)))
   (some [.vC A1 (wq r k.toNat (.raw (.slice none 0 0))), .vC Ac l, .int .i64 k, .int .i64 n, .int .i64 j, .vC kInts (Aq (nth .vD (nth [] l k.toNat) 1)), .int .i64 ((Aq (nth .vD (nth [] l k.toNat) 1)).length:Int), .int .i64 0]) none) none:=by kernel_rfl
abbrev hW (r l:List (List AC)) (k n h:Int) (q:List (List AC)) (m j:Int):List AC:=[.vC A1 r, .vC Ac l, .int .i64 k, .int .i64 n, .int .i64 h, .vC kInts q, .int .i64 m, .int .i64 j]
theorem JJ (r l:List (List AC)) (k n h:Int) (q:List (List AC)) (m j:Int):u14 (hW r l k n h q m j)=some (hW r l k n h q m j++[.bool (decide (j<m))]):=by kernel_rfl
theorem Od (r l:List (List AC)) (k n h:Int) (q:List (List AC)) (m j:Int) (b:Bool):u15 (hW r l k n h q m j++[.bool b])=cond (decide (0<=j)&&decide (j<(q.length:Int)))
  (some [.vC A1 r, .vC Ac l, .int .i64 k, .int .i64 (Ad (nth .vD (nth [] q j.toNat) 0)), .int .i64 n, .int .i64 h, .vC kInts q, .int .i64 m, .int .i64 j]) none:=by kernel_rfl
theorem Ta (r l:List (List AC)) (k n h:Int) (q:List (List AC)) (m j:Int):u17 (hW r l k n h q m j)=some (hW r l k n h q m (V (j+1))):=by kernel_rfl
end Go.Bm
