/- functions of the program and of the references, as models -/
import Derived.Test.YtommijghjlikkaaGreatMx2
set_option linter.unusedSimpArgs false
set_option linter.unusedVariables false
set_option maxRecDepth 100000
noncomputable section
namespace Go.Bm
open Go.Proofs
def Qln:Sk:=⟨[tf [CS.sl kPt],tf [ci]],[],[]⟩
def Qde:Sk:=⟨[tf [CS.sl kPt]],[],[]⟩
def Zha (M:Fn):Nat×Spec:=(22,Ac Qln Qde M)
def C_cnclaw43_at_0:Cfg:={cf []with prom:=fun b=>bif Nat.beq b 3 then [(5,69)]else []}
def Qxl:Sk:=⟨[td,tf [ci],td,td,td,tf [CS.own 5 3],td,td,tf [CS.sl kPt],tf [ci],tf [ci]]++dd 13,[],[(5,69,kPt)]⟩
def Q34:List (Ex×Sk):=[(Ex.exit 0,⟨[td,td,td,td,td,tf [CS.own 5 3]]++dd 18,[],[(5,69,kPt)]⟩)]
def Sv:Lp:=AN PG C_cnclaw43_at_0 64 3 (AO PG 22 3) Qxl Q34
def Qtu (N3:Lp):Cfg:=C_cnclaw43_at_0.loop 3 Qxl Q34 N3
def TU (N3:Lp):Fn:=Am PG (Qtu N3) 64 22 Qln Qde
theorem Zye (v0:Rw) (v1:Int) (v2:Rw) (v3 v4:Int):Sv [.view kPt v0,I v1, .view kPt v2,I v3,I v4]=
 bif decide (v4<v3)then
 bif decide (0<=v4)&&decide (v4<(v2.length:Int))then
 bif gA (nth [] v2 v4.toNat) 0==v1 then
 bif((v0++[[jA (nth [] v2 v4.toNat) 0,jA (nth [] v2 v4.toNat) 1,jA (nth [] v2 v4.toNat) 2]]).length*24).ble 140737488355328 then
 some (0,[.view kPt (v0++[[jA (nth [] v2 v4.toNat) 0,jA (nth [] v2 v4.toNat) 1,jA (nth [] v2 v4.toNat) 2]]),I v1, .view kPt v2,I v3,I (IntKind.i64.wrap (v4+1))])
 else
 none
 else
 some (0,[.view kPt v0,I v1, .view kPt v2,I v3,I (IntKind.i64.wrap (v4+1))])
 else
 none
 else
 some (1,[.view kPt v0]):=by kernel_rfl
theorem Zba (N3:Lp) (x0:Rw) (x1:Int):TU N3 [.view kPt x0,I x1]=
 (N3 [.view kPt [],I x1, .view kPt x0,I (x0.length:Int),I 0]).bind fun o1=>
 bif o1.1.beq 1 then
 some [.view kPt (wA o1.2 0)]
 else
 none:=by kernel_rfl
def Q5g:=An (Sv)
def Jj:=TU Q5g
theorem Quc:Ai PG (C_cnclaw43_at_0):=Ao rfl trivial
theorem Z4c:Al PG (22,Ac Qln Qde Jj):=rw2 (C:=(Qtu Q5g)) (fl fb Quc) Quc
def Ye:Sk:=⟨[tf [CS.sl Aa],tf [CS.sl Aa],tf [CS.sl Aa],tf [CS.sl Aa]],[],[]⟩
def Qle:Sk:=⟨[tf [CS.bool]],[],[]⟩
def Zr0 (M:Fn):Nat×Spec:=(14,Ac Ye Qle M)
def Qg0 (Ok:Fn):Cfg:=cf [Zqi Ok]
def Wn (Ok:Fn):Fn:=Am PG (Qg0 Ok) 64 14 Ye Qle
theorem Z2r (Ok:Fn) (x0 x1 x2 x3:Rw):Wn Ok [.view Aa x0, .view Aa x1, .view Aa x2, .view Aa x3]=
 (Ok [.view [Kd.sl Aa] [[.view Aa x0],[.view Aa x1],[.view Aa x2],[.view Aa x3]]]).bind fun o1=>
 some [B (bA o1 0)]:=by kernel_rfl
def LM:=Wn Ji
theorem Zpw:Ai PG (Qg0 Ji):=Ao rfl ⟨Zm8,trivial⟩
theorem Zz1:Al PG (14,Ac Ye Qle LM):=rw1 (C:=(Qg0 Ji)) Zpw
def Qbw:Sk:=⟨[],[],[]⟩
def Qcn:Sk:=⟨[tf [CS.bool]],[],[]⟩
def Zau (M:Fn):Nat×Spec:=(13,Ac Qbw Qcn M)
def Qc1 (Ca CB:Fn):Cfg:=cp [Qxt Ca,Qtq CB] [21,20]
def Qbg (Ca CB:Fn):Fn:=Am PG (Qc1 Ca CB) 64 13 Qbw Qcn
theorem Z0v (Ca CB:Fn):Qbg Ca CB []=
 (CB [I 8,I 10,I 10,I 10,I (-16777216),I 16777216,I 0,I 0,I 0, .view Aa [],I 8,I 10,I 10,I 10,I (-16777216),I 16777216,I 0,I 0,I 0, .view Aa [],I 8,I 10,I 10,I 10,I (-16777216),I 16777216,I 0,I 0,I 0, .view Aa [],I 9,I 3,I 100,I 1,I 0, .view Ak [],B true]).bind fun o5=>
 (CB [I 8,I 10,I 10,I 10,I (-16777216),I 16777216,I 0,I 0,I 0, .view Aa [],I 8,I 10,I 10,I 10,I (-16777216),I 16777216,I 0,I 0,I 0, .view Aa [],I 8,I 10,I 10,I 10,I (-16777216),I 16777216,I 0,I 0,I 0, .view Aa [],I 9,I 3,I 100,I 1,I 0, .view Ak [[I 12,I 0,I 0,I 0,I 0,I 0,I 0,I 0,I 0,I 0,I 0,I 0,I 0,B false,I 0,B false,I 0,I 0,I 0,I 0,I 0,B false]],B true]).bind fun o6=>
 bif gA o5 0 !=0 then
 some [B false]
 else
 bif gA o6 0 !=0 then
 some [B false]
 else
 (Ca (.view kPt []::cR 1 o5)).bind fun o7=>
 bif gA o7 2==7 then
 (Ca (.view kPt []::cR 1 o6)).bind fun o8=>
 bif gA o8 2==2 then
 (Ca (.view kPt [[I 0,I 4,I 0]]::cR 9 o8)).bind fun o9=>
 some [B (gA o9 2==3)]
 else
 some [B false]
 else
 some [B false]:=by kernel_rfl
def K2:=Qbg Hg HF
theorem Zot:Ai PG (Qc1 Hg HF):=Ao rfl ⟨Q79,Qr7,trivial⟩
theorem Zfw:Al PG (13,Ac Qbw Qcn K2):=rw1 (C:=(Qc1 Hg HF)) Zot
def Q3r:Sk:=⟨[tf [CS.sl Aa],tf [CS.sl Aa],tf [CS.sl Aa],tf [CS.sl Aa],tf [ci]],[],[]⟩
def Qvi:Sk:=⟨[tf [CS.bool]],[],[]⟩
def Qed (D_ Bs A6 Di DD Ca DS CN CB Ej Ei Ee Eu En El:Fn):Cfg:={cp [Zwu D_,Wg Bs,SC A6,Zus Di,Zsm DD,Qxt Ca,Zha DS,Q0f CN,Qtq CB,Z37 Ej,Zwo Ei,Zme Ee,Q9y Eu,Zr0 En,Zau El] [40,23,38,21,20]with rowDst:=[92],rowAs:=fun d=>bif Nat.beq d 92 then 22 else d,tprom:=[(22,69)]}
def Q44:Sk:=⟨[td,td,td,td,td,td,td,td,td,td,td,tf [CS.ptr 11 0],td,tf [CS.sl kPt],tf [CS.ptr 104400 0],td,tf [ci],tf [ci]]++dd 132,[(11,31,[ci,ci,ci,ci,ci,ci,ci,ci,ci,CS.sl Aa,ci,ci,ci,ci,ci,ci,ci,ci,ci,CS.sl Aa,ci,ci,ci,ci,ci,ci,ci,ci,ci,CS.sl Aa,ci,ci,ci,ci,ci]),(104400,119,cS)],[]⟩
def Qxi:List (Ex×Sk):=[(Ex.exit 0,⟨[td,td,td,td,td,td,td,td,td,td,td,tf [CS.ptr 11 0],td,tf [CS.sl kPt],tf [CS.ptr 104400 0],td,tf [ci]]++dd 133,[(11,31,[ci,ci,ci,ci,ci,ci,ci,ci,ci,CS.sl Aa,ci,ci,ci,ci,ci,ci,ci,ci,ci,CS.sl Aa,ci,ci,ci,ci,ci,ci,ci,ci,ci,CS.sl Aa,ci,ci,ci,ci,ci]),(104400,119,cS)],[]⟩)]
def Mg (D_ Bs A6 Di DD Ca DS CN CB Ej Ei Ee Eu En El:Fn):Lp:=AN PG (Qed D_ Bs A6 Di DD Ca DS CN CB Ej Ei Ee Eu En El) 64 11 (AO PG 9 11) Q44 Qxi
def Q8l (D_ Bs A6 Di DD Ca DS CN CB Ej Ei Ee Eu En El:Fn) (N11:Lp):Cfg:=(Qed D_ Bs A6 Di DD Ca DS CN CB Ej Ei Ee Eu En El).loop 11 Q44 Qxi N11
def Qzn:Sk:=⟨[td,td,td,td,td,td,td,td,td,td,td,td,td,tf [CS.sl kPt],tf [CS.ptr 104400 0],td,tf [ci],td,tf [CS.sl Aa],td,tf [ci],td,tf [CS.own 22 3],tf [ci]]++dd 126,[(104400,119,cS)],[(22,69,kPt)]⟩
def Q20:List (Ex×Sk):=[(Ex.ret,⟨[td,td,td,td,td,td,td,td,td,td,tf [CS.bool]]++dd 139,[],[]⟩),(Ex.exit 2,⟨[td,td,td,td,td,td,td,td,td,td,td,td,td,td,tf [CS.ptr 104400 0]]++dd 135,[(104400,119,cS)],[]⟩)]
def Ri (D_ Bs A6 Di DD Ca DS CN CB Ej Ei Ee Eu En El:Fn) (N11:Lp):Lp:=AN PG (Q8l D_ Bs A6 Di DD Ca DS CN CB Ej Ei Ee Eu En El N11) 64 22 (AO PG 9 22) Qzn Q20
def Q2n (D_ Bs A6 Di DD Ca DS CN CB Ej Ei Ee Eu En El:Fn) (N11 N22:Lp):Cfg:=(Q8l D_ Bs A6 Di DD Ca DS CN CB Ej Ei Ee Eu En El N11).loop 22 Qzn Q20 N22
def VD (D_ Bs A6 Di DD Ca DS CN CB Ej Ei Ee Eu En El:Fn) (N11 N22:Lp):Fn:=Am PG (Q2n D_ Bs A6 Di DD Ca DS CN CB Ej Ei Ee Eu En El N11 N22) 64 9 Q3r Qvi
theorem Zjb (D_ Bs A6 Di DD Ca DS CN CB Ej Ei Ee Eu En El:Fn) (v0:Rw) (v1 v2 v3 v4 v5 v6 v7 v8 v9 v10 v11:Int) (v12:Rw) (v13 v14 v15 v16 v17 v18 v19 v20 v21:Int) (v22:Rw) (v23 v24 v25 v26 v27 v28 v29 v30 v31:Int) (v32:Rw) (v33 v34 v35 v36 v37:Int) (K:Kf) (c:Cv):Mg D_ Bs A6 Di DD Ca DS CN CB Ej Ei Ee Eu En El (.view kPt v0::I v1::I v2::I v3::I v4::I v5::I v6::I v7::I v8::I v9::I v10::I v11:: .view Aa v12::I v13::I v14::I v15::I v16::I v17::I v18::I v19::I v20::I v21:: .view Aa v22::I v23::I v24::I v25::I v26::I v27::I v28::I v29::I v30::I v31:: .view Aa v32::I v33::I v34::I v35::I v36::I v37::Ad K c)=
 bif decide (v2<v1)then
 (DS [.view kPt v0,I v2]).bind fun o48=>
 (Ca (.view kPt (wA o48 0)::Ad K c)).bind fun o49=>
 some (0,(.view kPt v0::I v1::I (IntKind.i64.wrap (v2+1))::I v3::I v4::I v5::I v6::I v7::I v8::I v9::I v10::I v11:: .view Aa v12::I v13::I v14::I v15::I v16::I v17::I v18::I v19::I v20::I v21:: .view Aa v22::I v23::I v24::I v25::I v26::I v27::I v28::I v29::I v30::I v31:: .view Aa v32::I v33::I v34::I v35::I v36::I v37::cR 9 o49))
 else
 some (1,(.view kPt v0::I v1::I v3::I v4::I v5::I v6::I v7::I v8::I v9::I v10::I v11:: .view Aa v12::I v13::I v14::I v15::I v16::I v17::I v18::I v19::I v20::I v21:: .view Aa v22::I v23::I v24::I v25::I v26::I v27::I v28::I v29::I v30::I v31:: .view Aa v32::I v33::I v34::I v35::I v36::I v37::Ad K c)):=by kernel_rfl
theorem Zrq (D_ Bs A6 Di DD Ca DS CN CB Ej Ei Ee Eu En El:Fn) (N11:Lp) (v0 v1:Rw) (v2:Int) (v3:Rw) (v4 v5:Int) (K:Kf) (c:Cv):Ri D_ Bs A6 Di DD Ca DS CN CB Ej Ei Ee Eu En El N11 (.view kPt v0:: .view kPt v1::I v2:: .view Aa v3::I v4::I v5::Ad K c)=
 bif decide (v5<IntKind.i64.wrap ((v3.length:Int)+20))then
 (DS [.view kPt v1,I (IntKind.i64.wrap (v2+v5))]).bind fun o50=>
 bif((v0++wA o50 0).length*24).ble 140737488355328 then
 (Ca (.view kPt (v0++wA o50 0)::Ad K c)).bind fun o51=>
 bif gA o51 8 !=21 then
 some (1,[B false])
 else
 bif decide (v5<(v3.length:Int))then
 (Di (cR 9 o51)).bind fun o52=>
 bif decide (0<=v5)&&decide (v5<(v3.length:Int))then
 bif gA o52 0 !=gA (nth [] v3 v5.toNat) 0 then
 some (1,[B false])
 else
 bif decide (v5>=(v3.length:Int))then
 (Di (cR 6 o52)).bind fun o53=>
 bif gA o53 0 !=v4 then
 some (1,[B false])
 else
 some (0,(.view kPt []:: .view kPt v1::I v2:: .view Aa v3::I v4::I (IntKind.i64.wrap (v5+1))::cR 6 o53))
 else
 some (0,(.view kPt []:: .view kPt v1::I v2:: .view Aa v3::I v4::I (IntKind.i64.wrap (v5+1))::cR 6 o52))
 else
 none
 else
 bif decide (v5>=(v3.length:Int))then
 (Di (cR 9 o51)).bind fun o54=>
 bif gA o54 0 !=v4 then
 some (1,[B false])
 else
 some (0,(.view kPt []:: .view kPt v1::I v2:: .view Aa v3::I v4::I (IntKind.i64.wrap (v5+1))::cR 6 o54))
 else
 some (0,(.view kPt []:: .view kPt v1::I v2:: .view Aa v3::I v4::I (IntKind.i64.wrap (v5+1))::cR 9 o51))
 else
 none
 else
 some (2,(Ad K c)):=by kernel_rfl
theorem Zti (D_ Bs A6 Di DD Ca DS CN CB Ej Ei Ee Eu En El:Fn) (N11 N22:Lp) (x0 x1 x2 x3:Rw) (x4:Int):VD D_ Bs A6 Di DD Ca DS CN CB Ej Ei Ee Eu En El N11 N22 [.view Aa x0, .view Aa x1, .view Aa x2, .view Aa x3,I x4]=
 (El []).bind fun o55=>
 bif !bA o55 0 then
 some [B false]
 else
 (En [.view Aa x0, .view Aa x1, .view Aa x2, .view Aa x3]).bind fun o56=>
 bif !bA o56 0 then
 some [B true]
 else
 (Eu [.view Aa x1, .view Aa x2]).bind fun o57=>
 (Ee [.view Aa x0,I 6,B true]).bind fun o58=>
 (Ei [.view Aa x3]).bind fun o59=>
 (Ej [.view kPt (wA o59 0)]).bind fun o60=>
 (CB [jA o57 0,jA o57 1,jA o57 2,jA o57 3,jA o57 4,jA o57 5,jA o57 6,jA o57 7,jA o57 8, .view Aa (wA o57 9),jA o57 10,jA o57 11,jA o57 12,jA o57 13,jA o57 14,jA o57 15,jA o57 16,jA o57 17,jA o57 18, .view Aa (wA o57 19),jA o57 20,jA o57 21,jA o57 22,jA o57 23,jA o57 24,jA o57 25,jA o57 26,jA o57 27,jA o57 28, .view Aa (wA o57 29),jA o57 30,jA o57 31,jA o57 32,jA o57 33,jA o57 34, .view Ak (wA o58 0),B true]).bind fun o61=>
 bif gA o61 0 !=0 then
 some [B false]
 else
 (CN [I x4,I 80]).bind fun o62=>
 (N11 (.view kPt (wA o60 0)::jA o62 0::I 0::jA o57 0::jA o57 1::jA o57 2::jA o57 3::jA o57 4::jA o57 5::jA o57 6::jA o57 7::jA o57 8:: .view Aa (wA o57 9)::jA o57 10::jA o57 11::jA o57 12::jA o57 13::jA o57 14::jA o57 15::jA o57 16::jA o57 17::jA o57 18:: .view Aa (wA o57 19)::jA o57 20::jA o57 21::jA o57 22::jA o57 23::jA o57 24::jA o57 25::jA o57 26::jA o57 27::jA o57 28:: .view Aa (wA o57 29)::jA o57 30::jA o57 31::jA o57 32::jA o57 33::jA o57 34::cR 1 o61)).bind fun o63=>
 bif o63.1.beq 1 then
 (DD (cR 37 o63.2)).bind fun o64=>
 bif gA o64 0 !=0 then
 (DD (cR 3 o64)).bind fun o65=>
 some [B (gA o65 1==18)]
 else
 (Di (cR 3 o64)).bind fun o66=>
 (A6 [jA o63.2 32,jA o63.2 33,jA o63.2 34,jA o66 0,jA o66 1,jA o66 2,jA o66 3,jA o66 4,jA o66 5]).bind fun o67=>
 (Di (cR 6 o66)).bind fun o68=>
 (Bs [jA o63.2 32,jA o63.2 33,jA o63.2 34,jA o68 0,jA o68 1,jA o68 2,jA o68 3,jA o68 4,jA o68 5]).bind fun o69=>
 bif !bA o67 1 then
 some [B false]
 else
 (N22 (.view kPt [[I 0,I 9,I 0]]:: .view kPt (wA o63.2 0)::jA o63.2 1:: .view Aa (wA o67 0)::jA o69 0::I 0::cR 6 o68)).bind fun o70=>
 bif o70.1.beq 1 then
 some [B (bA o70.2 0)]
 else
 bif o70.1.beq 2 then
 (DD (cR 0 o70.2)).bind fun o71=>
 bif gA o71 0==1&&(gA o71 1==21&&(gA o71 2== -1&&true))then
 (D_ (cR 3 o71)).bind fun o72=>
 some [B (bA o72 2)]
 else
 some [B false]
 else
 none
 else
 none:=by kernel_rfl
def Qkh:=An (Mg KJ DY Do Kw LV Hg Jj G_ HF K1 KM JV Kg LM K2)
def Q6j:=An (Ri KJ DY Do Kw LV Hg Jj G_ HF K1 KM JV Kg LM K2 Qkh)
def Q0b:=VD KJ DY Do Kw LV Hg Jj G_ HF K1 KM JV Kg LM K2 Qkh Q6j
theorem Vr:Ai PG (Qed KJ DY Do Kw LV Hg Jj G_ HF K1 KM JV Kg LM K2):=Ao rfl ⟨Q9k,Vn,QO,Zy0,Zbd,Q79,Z4c,Q0e,Qr7,Zlu,Zxr,Z2k,Zub,Zz1,Zfw,trivial⟩
theorem Q9o:∀(args:List TV) (v:TV) (mem:Mem),(Ac Q3r Qvi Q0b (TV×Mem) args ⟨[],[]⟩ fun v m=>some (v,m))=some (v,mem)->PCallM PG 9 args ⟨[],[]⟩ v mem:=fun args v mem h=>Zgk (f:=9) (C:=(Q2n KJ DY Do Kw LV Hg Jj G_ HF K1 KM JV Kg LM K2 Qkh Q6j)) (L:=64) (by kernel_rfl) (((FnOK.bare rfl rfl rfl).loop Vr eqOk Hh (by kernel_rfl) (by kernel_rfl)).loop Vr eqOk Hh (by kernel_rfl) (by kernel_rfl)) Vr eqOk Hh (by kernel_rfl) (by kernel_rfl) args v mem h
end Go.Bm
