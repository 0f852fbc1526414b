/- functions of the program and of the references, as models -/
import Derived.Test.YtommijghjlikkaaGreatMx3
set_option linter.unusedSimpArgs false
set_option linter.unusedVariables false
set_option maxRecDepth 100000
noncomputable section
open Go.IntKind (wrap)
namespace Go.Bm
open Go.Proofs
def Qfs:Sk:=⟨[tf [CS.sl kPt],tf [ci]],[],[]⟩
def Qif:Sk:=⟨[tf [CS.sl kPt]],[],[]⟩
def Zxt (M:Fn):Nat×Spec:=(22,Ac Qfs Qif M)
def C_cnclaw43_at_0:Cfg:={cf []with prom:=fun b=>bif Nat.beq b 3 then [(5,69)]else []}
def Qp2:Sk:=⟨[td,tf [ci],td,td,td,tf [CS.own 5 3],td,td,tf [CS.sl kPt],tf [ci],tf [ci]]++dd 13,[],[(5,69,kPt)]⟩
def Q3d:List (Ex×Sk):=[(Ex.exit 0,⟨[td,td,td,td,td,tf [CS.own 5 3]]++dd 18,[],[(5,69,kPt)]⟩)]
def Rq:Lp:=A4 PG C_cnclaw43_at_0 64 3 (A3 PG 22 3) Qp2 Q3d
def Qtc (N3:Lp):Cfg:=C_cnclaw43_at_0.loop 3 Qp2 Q3d N3
def Qgi (N3:Lp):Fn:=An PG (Qtc N3) 64 22 Qfs Qif
theorem Zbr (v0:Rw) (v1:Int) (v2:Rw) (v3 v4:Int):Rq [.view kPt v0,I v1, .view kPt v2,I v3,I v4]=
 bif decide (v4<v3)then
 bif decide (0<=v4)&&decide (v4<(v2.length:Int))then
 bif gA (nth [] v2 v4.toNat) 0==v1 then
 bif((v0++[[jA (nth [] v2 v4.toNat) 0,jA (nth [] v2 v4.toNat) 1,jA (nth [] v2 v4.toNat) 2]]).length*24).ble 140737488355328 then
 some (0,[.view kPt (v0++[[jA (nth [] v2 v4.toNat) 0,jA (nth [] v2 v4.toNat) 1,jA (nth [] v2 v4.toNat) 2]]),I v1, .view kPt v2,I v3,I (wrap .i64 (v4+1))])
 else
 none
 else
 some (0,[.view kPt v0,I v1, .view kPt v2,I v3,I (wrap .i64 (v4+1))])
 else
 none
 else
 some (1,[.view kPt v0]):=by kernel_rfl
theorem Zxh (N3:Lp) (x0:Rw) (x1:Int):Qgi N3 [.view kPt x0,I x1]=
 (N3 [.view kPt [],I x1, .view kPt x0,I (x0.length:Int),I 0]).bind fun o1=>
 bif o1.1.beq 1 then
 some [.view kPt (wA o1.2 0)]
 else
 none:=by kernel_rfl
def Qri:=Am (Rq)
def K9:=Qgi Qri
theorem Qyw:Ai PG (C_cnclaw43_at_0):=Ap rfl trivial
theorem Q9g:Ak PG (22,Ac Qfs Qif K9):=rw2 (C:=(Qtc Qri)) (fl fb Qyw) Qyw
def X0:Sk:=⟨[tf [CS.sl Aa],tf [CS.sl Aa],tf [CS.sl Aa],tf [CS.sl Aa]],[],[]⟩
def Qg9:Sk:=⟨[tf [CS.bool]],[],[]⟩
def Zw6 (M:Fn):Nat×Spec:=(14,Ac X0 Qg9 M)
def Qaf (Ns:Fn):Cfg:=cf [Zt5 Ns]
def Yz (Ns:Fn):Fn:=An PG (Qaf Ns) 64 14 X0 Qg9
theorem Zrd (Ns:Fn) (x0 x1 x2 x3:Rw):Yz Ns [.view Aa x0, .view Aa x1, .view Aa x2, .view Aa x3]=
 (Ns [.view [Kd.sl Aa] [[.view Aa x0],[.view Aa x1],[.view Aa x2],[.view Aa x3]]]).bind fun o1=>
 some [B (bA o1 0)]:=by kernel_rfl
def Mg:=Yz JJ
theorem Zik:Ai PG (Qaf JJ):=Ap rfl ⟨Zzn,trivial⟩
theorem Zgj:Ak PG (14,Ac X0 Qg9 Mg):=rw1 (C:=(Qaf JJ)) Zik
def Zk:Sk:=⟨[],[],[]⟩
def Xw:Sk:=⟨[tf [CS.bool]],[],[]⟩
def Zbw (M:Fn):Nat×Spec:=(13,Ac Zk Xw M)
def Qjs (Dv DO:Fn):Cfg:=cp [Qyx Dv,Qra DO] [21,20]
def Ye (Dv DO:Fn):Fn:=An PG (Qjs Dv DO) 64 13 Zk Xw
theorem Zcn (Dv DO:Fn):Ye Dv DO []=
 (DO [I 8,I 10,I 10,I 10,I (-16777216),I 16777216,I 0,I 0,I 0, .view Aa [],I 8,I 10,I 10,I 10,I (-16777216),I 16777216,I 0,I 0,I 0, .view Aa [],I 8,I 10,I 10,I 10,I (-16777216),I 16777216,I 0,I 0,I 0, .view Aa [],I 9,I 3,I 100,I 1,I 0, .view Al [],B true]).bind fun o5=>
 (DO [I 8,I 10,I 10,I 10,I (-16777216),I 16777216,I 0,I 0,I 0, .view Aa [],I 8,I 10,I 10,I 10,I (-16777216),I 16777216,I 0,I 0,I 0, .view Aa [],I 8,I 10,I 10,I 10,I (-16777216),I 16777216,I 0,I 0,I 0, .view Aa [],I 9,I 3,I 100,I 1,I 0, .view Al [[I 12,I 0,I 0,I 0,I 0,I 0,I 0,I 0,I 0,I 0,I 0,I 0,I 0,B false,I 0,B false,I 0,I 0,I 0,I 0,I 0,B false]],B true]).bind fun o6=>
 bif gA o5 0 !=0 then
 some [B false]
 else
 bif gA o6 0 !=0 then
 some [B false]
 else
 (Dv (.view kPt []::cR 1 o5)).bind fun o7=>
 bif gA o7 2==7 then
 (Dv (.view kPt []::cR 1 o6)).bind fun o8=>
 bif gA o8 2==2 then
 (Dv (.view kPt [[I 0,I 4,I 0]]::cR 9 o8)).bind fun o9=>
 some [B (gA o9 2==3)]
 else
 some [B false]
 else
 some [B false]:=by kernel_rfl
def NZ:=Ye Ik Hk
theorem Z1e:Ai PG (Qjs Ik Hk):=Ap rfl ⟨Q40,Qyl,trivial⟩
theorem Zb3:Ak PG (13,Ac Zk Xw NZ):=rw1 (C:=(Qjs Ik Hk)) Z1e
def Q6i:Sk:=⟨[tf [CS.sl Aa],tf [CS.sl Aa],tf [CS.sl Aa],tf [ci],tf [ci]],[],[]⟩
def Qts:Sk:=⟨[tf [CS.bool]],[],[]⟩
def Qd7 (G0 DA Dv GL G1 GK DO DR GP G2 Gx:Fn):Cfg:=cp [Ze6 G0,Qrb DA,Qyx Dv,Zxt GL,Zn7 G1,Znk GK,Qra DO,Qwb DR,Za3 GP,Zw6 G2,Zbw Gx] [43,21,20]
def Q4g:Sk:=⟨dd 13++[tf [ci],td,tf [CS.ptr 105000 0],td,tf [ci],tf [CS.sl kPt],tf [ci]]++dd 90,[(105000,119,cS)],[]⟩
def Q0s:List (Ex×Sk):=[(Ex.ret,⟨dd 10++[tf [CS.bool]]++dd 99,[],[]⟩),(Ex.exit 0,⟨dd 15++[tf [CS.ptr 105000 0]]++dd 94,[(105000,119,cS)],[]⟩)]
def SC (G0 DA Dv GL G1 GK DO DR GP G2 Gx:Fn):Lp:=A4 PG (Qd7 G0 DA Dv GL G1 GK DO DR GP G2 Gx) 64 15 (A3 PG 12 15) Q4g Q0s
def Q27 (G0 DA Dv GL G1 GK DO DR GP G2 Gx:Fn) (N15:Lp):Cfg:=(Qd7 G0 DA Dv GL G1 GK DO DR GP G2 Gx).loop 15 Q4g Q0s N15
def Qbh (G0 DA Dv GL G1 GK DO DR GP G2 Gx:Fn) (N15:Lp):Fn:=An PG (Q27 G0 DA Dv GL G1 GK DO DR GP G2 Gx N15) 64 12 Q6i Qts
theorem Znx (G0 DA Dv GL G1 GK DO DR GP G2 Gx:Fn) (v0 v1:Int) (v2:Rw) (v3:Int) (K:Kf) (c:Cv):SC G0 DA Dv GL G1 GK DO DR GP G2 Gx (I v0::I v1:: .view kPt v2::I v3::Ad K c)=
 bif decide (v3<120)then
 (GL [.view kPt v2,I v3]).bind fun o22=>
 (Dv (.view kPt (wA o22 0)::Ad K c)).bind fun o23=>
 (DA [I (wrap .i64 (v0*16)),I (mn (gA o23 3) v1)]).bind fun o24=>
 (DA [I (wrap .i64 (v0*16)),I (mx (wrap .i64 (gA o23 3-v1)) 0)]).bind fun o25=>
 bif gA o23 7 !=wrap .i64 (wrap .i64 (gA o24 0-gA o25 0)*256)then
 some (1,[B false])
 else
 bif gA o23 2==7 then
 bif gA o23 7 !=0 then
 some (1,[B false])
 else
 some (0,(I v0::I v1:: .view kPt v2::I (wrap .i64 (v3+1))::cR 9 o23))
 else
 some (0,(I v0::I v1:: .view kPt v2::I (wrap .i64 (v3+1))::cR 9 o23))
 else
 some (2,(Ad K c)):=by kernel_rfl
theorem Q93 (G0 DA Dv GL G1 GK DO DR GP G2 Gx:Fn) (N15:Lp) (x0 x1 x2:Rw) (x3 x4:Int):Qbh G0 DA Dv GL G1 GK DO DR GP G2 Gx N15 [.view Aa x0, .view Aa x1, .view Aa x2,I x3,I x4]=
 (Gx []).bind fun o26=>
 bif !bA o26 0 then
 some [B false]
 else
 (G2 [.view Aa [], .view Aa x0, .view Aa x1, .view Aa x2]).bind fun o27=>
 bif !bA o27 0 then
 some [B true]
 else
 (GP [.view Aa x0, .view Aa x1]).bind fun o28=>
 (DR [I x3,I 20]).bind fun o29=>
 (DR [I x4,I 300]).bind fun o30=>
 (DO [jA o28 0,jA o28 1,jA o28 2,jA o28 3,jA o28 4,jA o28 5,jA o28 6,jA o28 7,jA o28 8, .view Aa (wA o28 9),jA o28 10,jA o28 11,jA o28 12,jA o28 13,jA o28 14,jA o28 15,jA o28 16,jA o28 17,jA o28 18, .view Aa (wA o28 19),jA o28 20,jA o28 21,jA o28 22,jA o28 23,jA o28 24,jA o28 25,jA o28 26,jA o28 27,jA o28 28, .view Aa (wA o28 29),jA o28 30,jA o28 31,jA o28 32,jA o28 33,jA o28 34, .view Al [[I 6,I 0,I 0,I 0,I 0,I 0,I 0,I (wrap .i64 (-1-gA o29 0)),I 0,I 0,I 0,I 0,I 0,B false,I (wrap .i64 (1+gA o30 0)),B true,I 0,I 0,I 0,I 3,I 0,B false],[I 6,I 0,I 0,I 0,I (wrap .i64 (-1-gA o29 0)),I 0,I 0,I 0,I 0,I 0,I 0,I 0,I 0,B false,I (wrap .i64 (1+gA o30 0)),B true,I 0,I 0,I 0,I 4,I 0,B false],[I 14,I 0,I 0,I 0,I 0,I 0,I 0,I 0,I 0,I 0,I 0,I 0,I 0,B false,I 0,B false,I 0,I 0,I 0,I 0,I 0,B false]],B true]).bind fun o31=>
 bif gA o31 0 !=0 then
 some [B false]
 else
 (GK [.view Aa x2]).bind fun o32=>
 (G1 [.view kPt (wA o32 0)]).bind fun o33=>
 (N15 (I (wrap .i64 (1+gA o30 0))::I (wrap .i64 (wrap .i64 (0-wrap .i64 (-1-gA o29 0))*16)):: .view kPt (wA o33 0)::I 0::cR 1 o31)).bind fun o34=>
 bif o34.1.beq 1 then
 some [B (bA o34.2 0)]
 else
 bif o34.1.beq 2 then
 (G0 (cR 0 o34.2)).bind fun o35=>
 some [B (gA o35 1==0)]
 else
 none:=by kernel_rfl
def Qud:=Am (SC Mw Fu Ik K9 L6 MJ Hk Iq Lc Mg NZ)
def Qqa:=Qbh Mw Fu Ik K9 L6 MJ Hk Iq Lc Mg NZ Qud
theorem Qn1:Ai PG (Qd7 Mw Fu Ik K9 L6 MJ Hk Iq Lc Mg NZ):=Ap rfl ⟨Znh,Qrn,Q40,Q9g,Zyw,Zye,Qyl,Qol,Z1u,Zgj,Zb3,trivial⟩
theorem Z0q:∀(args:List TV) (v:TV) (mem:Mem),(Ac Q6i Qts Qqa (TV×Mem) args ⟨[],[]⟩ fun v m=>some (v,m))=some (v,mem)->PCallM PG 12 args ⟨[],[]⟩ v mem:=fun args v mem h=>Zi4 (f:=12) (C:=(Q27 Mw Fu Ik K9 L6 MJ Hk Iq Lc Mg NZ Qud)) (L:=64) (by kernel_rfl) ((FnOK.bare rfl rfl rfl).loop Qn1 eqOk Ii (by kernel_rfl) (by kernel_rfl)) Qn1 eqOk Ii (by kernel_rfl) (by kernel_rfl) args v mem h
end Go.Bm
