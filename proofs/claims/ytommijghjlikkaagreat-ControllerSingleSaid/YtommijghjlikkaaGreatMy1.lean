/- functions of the program and of the references, as models -/
import Derived.Test.YtommijghjlikkaaGreatMx3
set_option linter.unusedSimpArgs false
set_option linter.unusedVariables false
set_option maxRecDepth 100000
noncomputable section
namespace Go.Bm
open Go.Proofs
def Qji:Sk:=⟨[tf [CS.sl Aa],tf [CS.sl Aa],tf [CS.sl Aa],tf [CS.sl Aa]],[],[]⟩
def Qan:Sk:=⟨[tf [CS.bool]],[],[]⟩
def Zsu (M:Fn):Nat×Spec:=(14,Ac Qji Qan M)
def Qiz (OG:Fn):Cfg:=cf [Zmn OG]
def ZO (OG:Fn):Fn:=Am PG (Qiz OG) 64 14 Qji Qan
theorem Q84 (OG:Fn) (x0 x1 x2 x3:Rw):ZO OG [.view Aa x0, .view Aa x1, .view Aa x2, .view Aa x3]=
 (OG [.view [Kd.sl Aa] [[.view Aa x0],[.view Aa x1],[.view Aa x2],[.view Aa x3]]]).bind fun o1=>
 some [B (bA o1 0)]:=by kernel_rfl
def KX:=ZO JL
theorem Zn1:Aj PG (Qiz JL):=Ao rfl ⟨Q7w,trivial⟩
theorem Zd6:Al PG (14,Ac Qji Qan KX):=rw1 (C:=(Qiz JL)) Zn1
def Qjl:Sk:=⟨[],[],[]⟩
def TO:Sk:=⟨[tf [CS.bool]],[],[]⟩
def Zrs (M:Fn):Nat×Spec:=(13,Ac Qjl TO M)
def Qcl (BX Cr:Fn):Cfg:=cp [Qq8 BX,Q32 Cr] [21,20]
def Qe0 (BX Cr:Fn):Fn:=Am PG (Qcl BX Cr) 64 13 Qjl TO
theorem Zz4 (BX Cr:Fn):Qe0 BX Cr []=
 (Cr [I 8,I 10,I 10,I 10,I (-16777216),I 16777216,I 0,I 0,I 0, .view Aa [],I 8,I 10,I 10,I 10,I (-16777216),I 16777216,I 0,I 0,I 0, .view Aa [],I 8,I 10,I 10,I 10,I (-16777216),I 16777216,I 0,I 0,I 0, .view Aa [],I 9,I 3,I 100,I 1,I 0, .view Ai [],B true]).bind fun o5=>
 (Cr [I 8,I 10,I 10,I 10,I (-16777216),I 16777216,I 0,I 0,I 0, .view Aa [],I 8,I 10,I 10,I 10,I (-16777216),I 16777216,I 0,I 0,I 0, .view Aa [],I 8,I 10,I 10,I 10,I (-16777216),I 16777216,I 0,I 0,I 0, .view Aa [],I 9,I 3,I 100,I 1,I 0, .view Ai [[I 12,I 0,I 0,I 0,I 0,I 0,I 0,I 0,I 0,I 0,I 0,I 0,I 0,B false,I 0,B false,I 0,I 0,I 0,I 0,I 0,B false]],B true]).bind fun o6=>
 bif gA o5 0 !=0 then
 some [B false]
 else
 bif gA o6 0 !=0 then
 some [B false]
 else
 (BX (.view kPt []::cR 1 o5)).bind fun o7=>
 bif gA o7 2==7 then
 (BX (.view kPt []::cR 1 o6)).bind fun o8=>
 bif gA o8 2==2 then
 (BX (.view kPt [[I 0,I 4,I 0]]::cR 9 o8)).bind fun o9=>
 some [B (gA o9 2==3)]
 else
 some [B false]
 else
 some [B false]:=by kernel_rfl
def KC:=Qe0 Hm GG
theorem Zyp:Aj PG (Qcl Hm GG):=Ao rfl ⟨Qx8,Q7e,trivial⟩
theorem Q85:Al PG (13,Ac Qjl TO KC):=rw1 (C:=(Qcl Hm GG)) Zyp
def Qoi:Sk:=⟨[tf [CS.sl Aa],tf [CS.sl Aa],tf [CS.sl Aa],tf [CS.sl Aa]],[],[]⟩
def Q47:Sk:=⟨[tf [CS.bool]],[],[]⟩
def ZJ (Ek BX DZ Cr Ef Em Er Eg:Fn):Cfg:={cp [Zge Ek,Qq8 BX,Zzw DZ,Q32 Cr,Zuj Ef,Zj7 Em,Zsu Er,Zrs Eg] [21,26,20]with rowDst:=[63]}
def Qux:Sk:=⟨[td,td,td,tf [CS.sl Aa]]++dd 6++[tf [CS.sl Ai],tf [CS.ptr 103700 0],td,tf [CS.sl kPt],tf [ci],tf [ci],td,tf [CS.ptr 17 0],tf [ci]]++dd 66++[tf [CS.sl kPt],tf [ci],tf [ci]]++dd 23,[(17,46,[CS.sl kPt,CS.sl Aa]++cc 7),(103700,119,cS)],[]⟩
def Qrt:List (Ex×Sk):=[(Ex.exit 2,⟨[td,td,td,tf [CS.sl Aa]]++dd 6++[tf [CS.sl Ai],tf [CS.ptr 103700 0],td,tf [CS.sl kPt],tf [ci],tf [ci],td,td,tf [ci]]++dd 92,[(103700,119,cS)],[]⟩)]
def LL (Ek BX DZ Cr Ef Em Er Eg:Fn):Lp:=A4 PG (ZJ Ek BX DZ Cr Ef Em Er Eg) 64 21 (A0 PG 7 21) Qux Qrt
def Qu7 (Ek BX DZ Cr Ef Em Er Eg:Fn) (N21:Lp):Cfg:=(ZJ Ek BX DZ Cr Ef Em Er Eg).loop 21 Qux Qrt N21
def Q4b:Sk:=⟨[td,td,td,tf [CS.sl Aa]]++dd 6++[tf [CS.sl Ai],tf [CS.ptr 103700 0],td,tf [CS.sl kPt],tf [ci],tf [ci]]++dd 95,[(103700,119,cS)],[]⟩
def Q3w:List (Ex×Sk):=[(Ex.ret,⟨dd 8++[tf [CS.bool]]++dd 102,[],[]⟩),(Ex.exit 0,⟨[td]++dd 110,[],[]⟩)]
def SI (Ek BX DZ Cr Ef Em Er Eg:Fn) (N21:Lp):Lp:=A4 PG (Qu7 Ek BX DZ Cr Ef Em Er Eg N21) 64 12 (A0 PG 7 12) Q4b Q3w
def Qzy (Ek BX DZ Cr Ef Em Er Eg:Fn) (N21 N12:Lp):Cfg:=(Qu7 Ek BX DZ Cr Ef Em Er Eg N21).loop 12 Q4b Q3w N12
def Qjw (Ek BX DZ Cr Ef Em Er Eg:Fn) (N21 N12:Lp):Fn:=Am PG (Qzy Ek BX DZ Cr Ef Em Er Eg N21 N12) 64 7 Qoi Q47
theorem Q8o (Ek BX DZ Cr Ef Em Er Eg:Fn) (v0 v1 v2:Rw) (v3 v4 v5:Int) (v6:Rw) (v7 v8:Int) (v9 v10:Rw) (v11 v12 v13 v14 v15 v16 v17:Int) (K:Kf) (c:Cv):LL Ek BX DZ Cr Ef Em Er Eg (.view Aa v0:: .view Ai v1:: .view kPt v2::I v3::I v4::I v5:: .view kPt v6::I v7::I v8:: .view kPt v9:: .view Aa v10::I v11::I v12::I v13::I v14::I v15::I v16::I v17::Ad K c)=
 bif decide (v8<v7)then
 bif decide (0<=v8)&&decide (v8<(v6.length:Int))then
 bif decide (0<=v8)&&decide (v8<(v1.length:Int))then
 (Ek [jA (nth [] v1 v8.toNat) 0]).bind fun o30=>
 bif bA o30 0 then
 bif decide (gA (nth [] v6 v8.toNat) 0<v12)then
 some (0,(.view Aa v0:: .view Ai v1:: .view kPt v2::I v3::I v4::I (IntKind.i64.wrap (v5+1)):: .view kPt v6::I v7::I (IntKind.i64.wrap (v8+1)):: .view kPt v9:: .view Aa v10::I v11::I v12::I v13::I v14::I v15::I v16::I v17::Ad K c))
 else
 some (0,(.view Aa v0:: .view Ai v1:: .view kPt v2::I v3::I v4::I v5:: .view kPt v6::I v7::I (IntKind.i64.wrap (v8+1)):: .view kPt v9:: .view Aa v10::I v11::I v12::I v13::I v14::I v15::I v16::I v17::Ad K c))
 else
 some (0,(.view Aa v0:: .view Ai v1:: .view kPt v2::I v3::I v4::I v5:: .view kPt v6::I v7::I (IntKind.i64.wrap (v8+1)):: .view kPt v9:: .view Aa v10::I v11::I v12::I v13::I v14::I v15::I v16::I v17::Ad K c))
 else
 none
 else
 none
 else
 some (1,(.view Aa v0:: .view Ai v1:: .view kPt v2::I v3::I v4::I v5::Ad K c)):=by kernel_rfl
abbrev O0 (BX:Fn) (K:Kf) (c:Cv) (N21:Lp) (v0 v1 v2:Rw) (v4:Int) (h1_0 h1_1:AC):Option (Nat×List AC):=
 (BX (h1_0::Ad K c)).bind fun o31=>
 (N21 (.view Aa v0:: .view Ai v1:: .view kPt v2::h1_1::I v4::I 0:: .view kPt v2::I (v2.length:Int)::I 0:: .view kPt (wA o31 0):: .view Aa (wA o31 1)::jA o31 2::jA o31 3::jA o31 4::jA o31 5::jA o31 6::jA o31 7::jA o31 8::cR 9 o31)).bind fun o32=>
 bif o32.1.beq 1 then
 bif decide (gA o32.2 5>gA o32.2 3)then
 some (1,[B false])
 else
 some (0,(.view Aa (wA o32.2 0):: .view Ai (wA o32.2 1):: .view kPt (wA o32.2 2)::jA o32.2 3::I (IntKind.i64.wrap (gA o32.2 4+1))::cR 6 o32.2))
 else
 none
attribute [go_sem] O0
theorem Zxx (Ek BX DZ Cr Ef Em Er Eg:Fn) (N21:Lp) (v0 v1 v2:Rw) (v3 v4:Int) (K:Kf) (c:Cv):SI Ek BX DZ Cr Ef Em Er Eg N21 (.view Aa v0:: .view Ai v1:: .view kPt v2::I v3::I v4::Ad K c)=
 bif decide (v4<120)then
 bif decide (v4<(v0.length:Int))then
 bif decide (0<=v4)&&decide (v4<(v0.length:Int))then
 bif(gA (nth [] v0 v4.toNat) 0).tmod 4==0 then
 O0 BX K c N21 v0 v1 v2 v4 (.view kPt ([[I 0,I 5,I 1]]++[[I 0,I 4,I 0]])) (I (IntKind.i64.wrap (v3+1)))
 else
 O0 BX K c N21 v0 v1 v2 v4 (.view kPt [[I 0,I 5,I 1]]) (I v3)
 else
 none
 else
 O0 BX K c N21 v0 v1 v2 v4 (.view kPt [[I 0,I 5,I 1]]) (I v3)
 else
 some (2,[]):=by kernel_rfl
theorem Z0f (Ek BX DZ Cr Ef Em Er Eg:Fn) (N21 N12:Lp) (x0 x1 x2 x3:Rw):Qjw Ek BX DZ Cr Ef Em Er Eg N21 N12 [.view Aa x0, .view Aa x1, .view Aa x2, .view Aa x3]=
 (Eg []).bind fun o37=>
 bif !bA o37 0 then
 some [B false]
 else
 (Er [.view Aa x0, .view Aa x1, .view Aa x2, .view Aa x3]).bind fun o38=>
 bif !bA o38 0 then
 some [B true]
 else
 (Em [.view Aa x1, .view Aa x2]).bind fun o39=>
 (Ef [.view Aa x0,I 7,B true]).bind fun o40=>
 (Cr [jA o39 0,jA o39 1,jA o39 2,jA o39 3,jA o39 4,jA o39 5,jA o39 6,jA o39 7,jA o39 8, .view Aa (wA o39 9),jA o39 10,jA o39 11,jA o39 12,jA o39 13,jA o39 14,jA o39 15,jA o39 16,jA o39 17,jA o39 18, .view Aa (wA o39 19),jA o39 20,jA o39 21,jA o39 22,jA o39 23,jA o39 24,jA o39 25,jA o39 26,jA o39 27,jA o39 28, .view Aa (wA o39 29),jA o39 30,jA o39 31,jA o39 32,jA o39 33,jA o39 34, .view Ai (wA o40 0),B true]).bind fun o41=>
 bif gA o41 0 !=0 then
 some [B false]
 else
 (DZ (cR 1 o41)).bind fun o42=>
 bif(↑(wA o42 4).length:Int) !=(↑(wA o40 0).length:Int)then
 some [B false]
 else
 (DZ (cR 5 o42)).bind fun o43=>
 (N12 (.view Aa x3:: .view Ai (wA o40 0):: .view kPt (wA o43 4)::I 0::I 0::cR 5 o43)).bind fun o44=>
 bif o44.1.beq 1 then
 some [B (bA o44.2 0)]
 else
 bif o44.1.beq 2 then
 some [B true]
 else
 none:=by kernel_rfl
def Qj6:=An (LL LX Hm Ks GG JF Ki KX KC)
def Qqq:=An (SI LX Hm Ks GG JF Ki KX KC Qj6)
def Qt9:=Qjw LX Hm Ks GG JF Ki KX KC Qj6 Qqq
theorem Qaf:Aj PG (ZJ LX Hm Ks GG JF Ki KX KC):=Ao rfl ⟨Zff,Qx8,Znh,Q7e,Zk2,Ztd,Zd6,Q85,trivial⟩
theorem Zml:∀(args:List TV) (v:TV) (mem:Mem),(Ac Qoi Q47 Qt9 (TV×Mem) args ⟨[],[]⟩ fun v m=>some (v,m))=some (v,mem)->PCallM PG 7 args ⟨[],[]⟩ v mem:=fun args v mem h=>Q9p (f:=7) (C:=(Qzy LX Hm Ks GG JF Ki KX KC Qj6 Qqq)) (L:=64) (by kernel_rfl) (((FnOK.bare rfl rfl rfl).loop Qaf eqOk Hr (by kernel_rfl) (by kernel_rfl)).loop Qaf eqOk Hr (by kernel_rfl) (by kernel_rfl)) Qaf eqOk Hr (by kernel_rfl) (by kernel_rfl) args v mem h
end Go.Bm
