/- functions of the program and of the references, as models -/
import Derived.Test.YtommijghjlikkaaGreatMx3
set_option linter.unusedSimpArgs false
set_option linter.unusedVariables false
set_option maxRecDepth 100000
noncomputable section
open Go.IntKind (wrap)
namespace Go.Bm
open Go.Proofs
def Qgc:Sk:=⟨[tf [CS.sl kPt],tf [ci]],[],[]⟩
def Zxy (M:Fn):Nat×Spec:=(22,Ad Qgc Ww M)
def C_cnclaw43_at_0:Cfg:={cf []with prom:=λb=>bif Nat.beq b 3 then [(5,69)]else []}
def Q5w:Sk:=⟨[td,tf [ci],td,td,td,tf [CS.own 5 3],td,td,tf [CS.sl kPt],tf [ci],tf [ci]]++dd 13,[],[(5,69,kPt)]⟩
def Q80:List (Ex×Sk):=[(Ex.exit 0,⟨[td,td,td,td,td,tf [CS.own 5 3]]++dd 18,[],[(5,69,kPt)]⟩)]
def T7:Lp:=AS PG C_cnclaw43_at_0 64 3 (AV PG 22 3) Q5w Q80
def Q9l (N3:Lp):Cfg:=C_cnclaw43_at_0.loop 3 Q5w Q80 N3
def Qnt (N3:Lp):Fn:=Am PG (Q9l N3) 64 22 Qgc Ww
theorem Zhm (v0:Rw) (v1:Int) (v2:Rw) (v3 v4:Int):T7 [.view kPt v0,I v1, .view kPt v2,I v3,I v4]=
 bif decide (v4<v3)then
 bif decide (0<=v4)&&decide (v4<(v2.length:Int))then
 bif gA (nth [] v2 v4.toNat) 0==v1 then
 bif((v0++[[jA (nth [] v2 v4.toNat) 0,jA (nth [] v2 v4.toNat) 1,jA (nth [] v2 v4.toNat) 2]]).length*24).ble 140737488355328 then
 some (0,[.view kPt (v0++[[jA (nth [] v2 v4.toNat) 0,jA (nth [] v2 v4.toNat) 1,jA (nth [] v2 v4.toNat) 2]]),I v1, .view kPt v2,I v3,I (wrap .i64 (v4+1))])
 else
 none
 else
 some (0,[.view kPt v0,I v1, .view kPt v2,I v3,I (wrap .i64 (v4+1))])
 else
 none
 else
 some (1,[.view kPt v0]):=by kernel_rfl
theorem Zng (N3:Lp) (x0:Rw) (x1:Int):Qnt N3 [.view kPt x0,I x1]=
 (N3 [.view kPt [],I x1, .view kPt x0,I (x0.length:Int),I 0]).bind λo1=>
 bif o1.1.beq 1 then
 some [.view kPt (wA o1.2 0)]
 else
 none:=by kernel_rfl
def Qzj:=An (T7)
def K3:=Qnt Qzj
theorem Qu1:Ai PG (C_cnclaw43_at_0):=Ao rfl trivial
theorem Z4e:Al PG (22,Ad Qgc Ww K3):=rw2 (C:=(Q9l Qzj)) (fl fb Qu1) Qu1
def YF:Sk:=⟨[tf [CS.sl Aa],tf [CS.sl Aa],tf [CS.sl Aa],tf [CS.sl Aa]],[],[]⟩
def Zcf (M:Fn):Nat×Spec:=(14,Ad YF Xp M)
def Z9 (Oa:Fn):Cfg:=cf [Z66 Oa]
def Qp6 (Oa:Fn):Fn:=Am PG (Z9 Oa) 64 14 YF Xp
theorem Z31 (Oa:Fn) (x0 x1 x2 x3:Rw):Qp6 Oa [.view Aa x0, .view Aa x1, .view Aa x2, .view Aa x3]=
 (Oa [.view [Kd.sl Aa] [[.view Aa x0],[.view Aa x1],[.view Aa x2],[.view Aa x3]]]).bind λo1=>
 some [B (bA o1 0)]:=by kernel_rfl
def Nl:=Qp6 KO
theorem Zb0:Ai PG (Z9 KO):=Ao rfl ⟨Z6u,trivial⟩
theorem Zrc:Al PG (14,Ad YF Xp Nl):=rw1 (C:=(Z9 KO)) Zb0
def Zvf (M:Fn):Nat×Spec:=(13,Ad Qlr Xp M)
def Qke (Ds DJ:Fn):Cfg:=cp [Q5y Ds,Qu2 DJ] [21,20]
def Qhk (Ds DJ:Fn):Fn:=Am PG (Qke Ds DJ) 64 13 Qlr Xp
theorem Zon (Ds DJ:Fn):Qhk Ds DJ []=
 (DJ [I 8,I 10,I 10,I 10,I (-16777216),I 16777216,I 0,I 0,I 0, .view Aa [],I 8,I 10,I 10,I 10,I (-16777216),I 16777216,I 0,I 0,I 0, .view Aa [],I 8,I 10,I 10,I 10,I (-16777216),I 16777216,I 0,I 0,I 0, .view Aa [],I 9,I 3,I 100,I 1,I 0, .view Aj [],B true]).bind λo5=>
 (DJ [I 8,I 10,I 10,I 10,I (-16777216),I 16777216,I 0,I 0,I 0, .view Aa [],I 8,I 10,I 10,I 10,I (-16777216),I 16777216,I 0,I 0,I 0, .view Aa [],I 8,I 10,I 10,I 10,I (-16777216),I 16777216,I 0,I 0,I 0, .view Aa [],I 9,I 3,I 100,I 1,I 0, .view Aj [[I 12,I 0,I 0,I 0,I 0,I 0,I 0,I 0,I 0,I 0,I 0,I 0,I 0,B false,I 0,B false,I 0,I 0,I 0,I 0,I 0,B false]],B true]).bind λo6=>
 bif gA o5 0 !=0 then
 some [B false]
 else
 bif gA o6 0 !=0 then
 some [B false]
 else
 (Ds (.view kPt []::cR 1 o5)).bind λo7=>
 bif gA o7 2==7 then
 (Ds (.view kPt []::cR 1 o6)).bind λo8=>
 bif gA o8 2==2 then
 (Ds (.view kPt [[I 0,I 4,I 0]]::cR 9 o8)).bind λo9=>
 some [B (gA o9 2==3)]
 else
 some [B false]
 else
 some [B false]:=by kernel_rfl
def NY:=Qhk HR H5
theorem Zt0:Ai PG (Qke HR H5):=Ao rfl ⟨Q3m,Q1v,trivial⟩
theorem Zcx:Al PG (13,Ad Qlr Xp NY):=rw1 (C:=(Qke HR H5)) Zt0
def Q59:Sk:=⟨[tf [CS.sl Aa],tf [CS.sl Aa],tf [CS.sl Aa],tf [CS.sl Aa],tf [ci]],[],[]⟩
def Vh (Ha Ds Ho AO Gr Hg DJ GO Hr Ek G2 Hm Hh:Fn):Cfg:={cp [Z1i Ha,Q5y Ds,Zxy Ho,Pz AO,Zei Gr,Zqf Hg,Qu2 DJ,Zdg GO,Zku Hr,Qqy Ek,Z6a G2,Zcf Hm,Zvf Hh] [21,27,26,20]with unroll:=[16]}
def Qtd:Sk:=⟨dd 13++[tf [CS.sl kPt],tf [CS.ptr 104100 0],td,tf [CS.ptr 16 0],tf [ci]]++dd 67,[(16,44,[ci,ci,ci]),(104100,119,cS)],[]⟩
def Q7z:List (Ex×Sk):=[(Ex.ret,⟨dd 10++[tf [CS.bool]]++dd 74,[],[]⟩),(Ex.exit 0,⟨[td]++dd 84,[],[]⟩)]
def R1 (Ha Ds Ho AO Gr Hg DJ GO Hr Ek G2 Hm Hh:Fn):Lp:=AS PG (Vh Ha Ds Ho AO Gr Hg DJ GO Hr Ek G2 Hm Hh) 64 11 (AV PG 4 11) Qtd Q7z
def Qrh (Ha Ds Ho AO Gr Hg DJ GO Hr Ek G2 Hm Hh:Fn) (N11:Lp):Cfg:=(Vh Ha Ds Ho AO Gr Hg DJ GO Hr Ek G2 Hm Hh).loop 11 Qtd Q7z N11
def Yw (Ha Ds Ho AO Gr Hg DJ GO Hr Ek G2 Hm Hh:Fn) (N11:Lp):Fn:=Am PG (Qrh Ha Ds Ho AO Gr Hg DJ GO Hr Ek G2 Hm Hh N11) 64 4 Q59 Xp
theorem Zwe (Ha Ds Ho AO Gr Hg DJ GO Hr Ek G2 Hm Hh:Fn) (v0:Rw) (v1 v2 v3 v4:Int) (K:Kf) (c:Cv):R1 Ha Ds Ho AO Gr Hg DJ GO Hr Ek G2 Hm Hh (.view kPt v0::I v1::I v2::I v3::I v4::Ab K c)=
 bif decide (v1<120)then
 (Ho [.view kPt v0,I v1]).bind λo24=>
 (Ds (.view kPt (wA o24 0)::Ab K c)).bind λo25=>
 (Ha [.view kPt (wA o25 0)]).bind λo26=>
 bif !(gA o25 4==wrap .i64 (v2+gA o26 0)&&(gA o25 5==wrap .i64 (v3+gA o26 1)&&(gA o25 6==wrap .i64 (v4+gA o26 2)&&true)))then
 some (1,[B false])
 else
 some (0,(.view kPt v0::I (wrap .i64 (v1+1))::I (wrap .i64 (v2+gA o26 0))::I (wrap .i64 (v3+gA o26 1))::I (wrap .i64 (v4+gA o26 2))::cR 9 o25))
 else
 some (2,[]):=by kernel_rfl
theorem Zqd (Ha Ds Ho AO Gr Hg DJ GO Hr Ek G2 Hm Hh:Fn) (N11:Lp) (x0 x1 x2 x3:Rw) (x4:Int):Yw Ha Ds Ho AO Gr Hg DJ GO Hr Ek G2 Hm Hh N11 [.view Aa x0, .view Aa x1, .view Aa x2, .view Aa x3,I x4]=
 (Hh []).bind λo27=>
 bif !bA o27 0 then
 some [B false]
 else
 (Hm [.view Aa x0, .view Aa x1, .view Aa x2, .view Aa x3]).bind λo28=>
 bif !bA o28 0 then
 some [B true]
 else
 (G2 [.view Aa x1, .view Aa x2]).bind λo29=>
 (Ek [I x4,I 7]).bind λo30=>
 (Hr [.view Aa x0,jA o30 0,B true]).bind λo31=>
 (GO [.view Aa x3]).bind λo32=>
 (DJ [jA o29 0,jA o29 1,jA o29 2,jA o29 3,jA o29 4,jA o29 5,jA o29 6,jA o29 7,jA o29 8, .view Aa (wA o29 9),jA o29 10,jA o29 11,jA o29 12,jA o29 13,jA o29 14,jA o29 15,jA o29 16,jA o29 17,jA o29 18, .view Aa (wA o29 19),jA o29 20,jA o29 21,jA o29 22,jA o29 23,jA o29 24,jA o29 25,jA o29 26,jA o29 27,jA o29 28, .view Aa (wA o29 29),jA o29 30,jA o29 31,jA o29 32,jA o29 33,jA o29 34, .view Aj (wA o31 0),B true]).bind λo33=>
 bif gA o33 0 !=0 then
 some [B false]
 else
 (Hg (cR 1 o33)).bind λo34=>
 (Gr (cR 5 o34)).bind λo35=>
 (AO [jA o34 0,jA o34 1,jA o34 2, .view Ag (wA o34 3), .view kPt (wA o34 4),jA o29 0,jA o29 1,jA o29 2,jA o29 3,jA o29 4,jA o29 5,jA o29 6,jA o29 7,jA o29 8, .view Aa (wA o29 9),jA o29 10,jA o29 11,jA o29 12,jA o29 13,jA o29 14,jA o29 15,jA o29 16,jA o29 17,jA o29 18, .view Aa (wA o29 19),jA o29 20,jA o29 21,jA o29 22,jA o29 23,jA o29 24,jA o29 25,jA o29 26,jA o29 27,jA o29 28, .view Aa (wA o29 29), .view Ap (wA o35 0),jA o35 1,jA o35 2,jA o35 3,jA o35 4,jA o35 5,I 0]).bind λo36=>
 (N11 (.view kPt (wA o32 0)::I 0::jA o36 0::jA o36 1::jA o36 2::cR 6 o35)).bind λo37=>
 bif o37.1.beq 1 then
 some [B (bA o37.2 0)]
 else
 bif o37.1.beq 2 then
 some [B true]
 else
 none:=by kernel_rfl
def Q4n:=An (R1 Oc HR K3 C8 Nv OI H5 M0 KN Ib Mk Nl NY)
def Q7c:=Yw Oc HR K3 C8 Nv OI H5 M0 KN Ib Mk Nl NY Q4n
theorem Q3o:Ai PG (Vh Oc HR K3 C8 Nv OI H5 M0 KN Ib Mk Nl NY):=Ao rfl ⟨Zok,Q3m,Z4e,PR,Ztw,Z5i,Q1v,Zu1,Zcc,Qze,Zss,Zrc,Zcx,trivial⟩
theorem Zr3:∀(args:List TV) (v:TV) (mem:Mem),(Ad Q59 Xp Q7c (TV×Mem) args ⟨[],[]⟩ λv m=>some (v,m))=some (v,mem)->PCallM PG 4 args ⟨[],[]⟩ v mem:=λargs v mem h=>Zhk (f:=4) (C:=(Qrh Oc HR K3 C8 Nv OI H5 M0 KN Ib Mk Nl NY Q4n)) (L:=64) (by kernel_rfl) ((FnOK.bare rfl rfl rfl).loop Q3o eqOk GH (by kernel_rfl) (by kernel_rfl)) Q3o eqOk GH (by kernel_rfl) (by kernel_rfl) args v mem h
end Go.Bm
