/- functions of the program and of the references, as models -/
import Derived.Test.YtommijghjlikkaaGreatMx2
set_option linter.unusedSimpArgs false
set_option linter.unusedVariables false
set_option maxRecDepth 100000
noncomputable section
open Go.IntKind (wrap)
namespace Go.Bm
open Go.Proofs
def Xq:Sk:=⟨[tf [CS.ptr 20000 0]],[(20000,103,[CS.sl Aa,ci])],[]⟩
def Qdb:Sk:=⟨[TS.v true (cc 9++[CS.sl Aa])],[(20000,103,[CS.sl Aa,ci])],[]⟩
def Zym (M:Fn):Nat×Spec:=(84,Ac Xq Qdb M)
def Qdd (Aq:Fn):Cfg:={spec:=HQ [Ji Aq],eqOk:=JM,pure:=fun f=> !(AR [48] f),ownOff:=Zz4}
def Q7t:Sk:=⟨[tf [CS.ptr 20000 0],td,tf [CS.ptr 2 0],tf [CS.ptr 3 0],tf [ci],tf [ci],tf [ci]]++dd 72,[(2,26,cc 9++[CS.own 1002009 1]),(3,26,cc 9++[CS.own 1003009 1]),(20000,103,[CS.sl Aa,ci])],[(1002009,3,Aa),(1003009,3,Aa)]⟩
def Q6s:List (Ex×Sk):=[(Ex.exit 0,⟨[td,td,tf [CS.ptr 2 0],tf [CS.ptr 3 0]]++dd 75,[(2,26,cc 9++[CS.own 1002009 1]),(3,26,cc 9++[CS.own 1003009 1]),(20000,103,[CS.sl Aa,ci])],[(1002009,3,Aa),(1003009,3,Aa)]⟩)]
def Ti (Aq:Fn):Lp:=AT PG (Qdd Aq) 64 11 (AU PG 84 11) Q7t Q6s
def Q8z (Aq:Fn) (N11:Lp):Cfg:=(Qdd Aq).loop 11 Q7t Q6s N11
def Qh3 (Aq:Fn) (N11:Lp):Fn:=Am PG (Q8z Aq N11) 64 84 Xq Qdb
theorem Q5y (Aq:Fn) (v0 v1:Rw) (v2 v3 v4 v5 v6 v7 v8 v9 v10 v11 v12 v13 v14 v15 v16 v17 v18 v19 v20 v21 v22:Int) (v23:Rw) (v24:Int):Ti Aq [.view Aa v0, .view Aa v1,I v2,I v3,I v4,I v5,I v6,I v7,I v8,I v9,I v10,I v11,I v12,I v13,I v14,I v15,I v16,I v17,I v18,I v19,I v20,I v21,I v22, .view Aa v23,I v24]=
 bif decide (v4<v2)then
 bif((v1++[[I v3]]).length*8).ble 140737488355328 then
 (Aq [I (wrap .i64 (wrap .i64 (2*wrap .i64 (v22.tdiv 4))+1)), .view Aa v23,I v24]).bind fun o20=>
 some (0,[.view Aa v0, .view Aa (v1++[[I v3]]),I v2,I (mn (mx (wrap .i64 (wrap .i64 (v3+gA o20 0)-wrap .i64 (v22.tdiv 4))) (-4096)) 4096),I (wrap .i64 (v4+1)),I v5,I v6,I v7,I v8,I v9,I v10,I v11,I v12,I v13,I v14,I v15,I v16,I v17,I v18,I v19,I v20,I v21,I v22, .view Aa (wA o20 1),jA o20 2])
 else
 none
 else
 some (1,[.view Aa v0, .view Aa v1,I v5,I v6,I v7,I v8,I v9,I v10,I v11,I v12,I v13,I v14,I v15,I v16,I v17,I v18,I v19,I v20,I v21,I v22, .view Aa v23,I v24]):=by kernel_rfl
theorem Z1t (Aq:Fn) (N11:Lp) (x0:Rw) (x1:Int):Qh3 Aq N11 [.view Aa x0,I x1]=
 (Aq [I 6, .view Aa x0,I x1]).bind fun o21=>
 bif decide (0<=gA o21 0)&&decide (gA o21 0<(↑[[I 8],[I 4],[I 5],[I 16],[I 23],[I 64]].length:Int))then
 (Aq [I 4, .view Aa (wA o21 1),jA o21 2]).bind fun o22=>
 bif decide (0<=gA o22 0)&&decide (gA o22 0<(↑[[I 0],[I 1],[I 3],[I 6]].length:Int))then
 (Aq [I 5, .view Aa (wA o22 1),jA o22 2]).bind fun o23=>
 bif decide (0<=gA o23 0)&&decide (gA o23 0<(↑[[I 40],[I 1],[I 3],[I 9],[I 1000]].length:Int))then
 (Aq [I 5, .view Aa (wA o23 1),jA o23 2]).bind fun o24=>
 bif decide (0<=gA o24 0)&&decide (gA o24 0<(↑[[I 20],[I 2],[I 3],[I 5],[I 1000]].length:Int))then
 (Aq [I 5, .view Aa (wA o24 1),jA o24 2]).bind fun o25=>
 bif decide (0<=gA o25 0)&&decide (gA o25 0<(↑[[I 30],[I 4],[I 5],[I 8],[I 1000]].length:Int))then
 (Aq [I 5, .view Aa (wA o25 1),jA o25 2]).bind fun o26=>
 bif gA o26 0==0 then
 some [I (Af (nth .dead (nth [] [[I 8],[I 4],[I 5],[I 16],[I 23],[I 64]] (gA o21 0).toNat) 0)),I (Af (nth .dead (nth [] [[I 40],[I 1],[I 3],[I 9],[I 1000]] (gA o23 0).toNat) 0)),I (Af (nth .dead (nth [] [[I 20],[I 2],[I 3],[I 5],[I 1000]] (gA o24 0).toNat) 0)),I (Af (nth .dead (nth [] [[I 30],[I 4],[I 5],[I 8],[I 1000]] (gA o25 0).toNat) 0)),I (-16777216),I 16777216,I (Af (nth .dead (nth [] [[I 0],[I 1],[I 3],[I 6]] (gA o22 0).toNat) 0)),I 0,I 0, .view Aa [], .view Aa (wA o26 1),jA o26 2]
 else
 (Aq [I 400, .view Aa (wA o26 1),jA o26 2]).bind fun o27=>
 (Aq [I 120, .view Aa (wA o27 1),jA o27 2]).bind fun o28=>
 (Aq [I 9, .view Aa (wA o28 1),jA o28 2]).bind fun o29=>
 (N11 [.view Aa [], .view Aa [],jA o26 0,I (wrap .i64 (gA o29 0-4)),I 0,I 0,I 0,I 0,I 0,I 0,I 0,I 0,I 0,I 0,I (Af (nth .dead (nth [] [[I 8],[I 4],[I 5],[I 16],[I 23],[I 64]] (gA o21 0).toNat) 0)),I (Af (nth .dead (nth [] [[I 40],[I 1],[I 3],[I 9],[I 1000]] (gA o23 0).toNat) 0)),I (Af (nth .dead (nth [] [[I 20],[I 2],[I 3],[I 5],[I 1000]] (gA o24 0).toNat) 0)),I (Af (nth .dead (nth [] [[I 30],[I 4],[I 5],[I 8],[I 1000]] (gA o25 0).toNat) 0)),I (-16777216),I 16777216,I (Af (nth .dead (nth [] [[I 0],[I 1],[I 3],[I 6]] (gA o22 0).toNat) 0)),I (wrap .i64 (gA o27 0-200)),I (wrap .i64 (4+gA o28 0)), .view Aa (wA o29 1),jA o29 2]).bind fun o30=>
 bif o30.1.beq 1 then
 some [jA o30.2 11,jA o30.2 12,jA o30.2 13,jA o30.2 14,jA o30.2 15,jA o30.2 16,jA o30.2 17,jA o30.2 18,jA o30.2 19, .view Aa (wA o30.2 1), .view Aa (wA o30.2 20),jA o30.2 21]
 else
 none
 else
 none
 else
 none
 else
 none
 else
 none
 else
 none:=by kernel_rfl
def Qg1:=An (Ti Bv)
def Nm:=Qh3 Bv Qg1
theorem Q19:Ai PG (Qdd Bv):=Ao rfl ⟨Js,trivial⟩
theorem Zdn:Aj PG (84,Ac Xq Qdb Nm):=rw2 (C:=(Q8z Bv Qg1)) (fl fb Q19) Q19
def Qe2:Sk:=⟨[tf [CS.sl Aa]],[],[]⟩
def VY:Sk:=⟨[TS.v true (cc 9++[CS.sl Aa]++cc 9++[CS.sl Aa]++cc 9++[CS.sl Aa])],[],[]⟩
def Z61 (M:Fn):Nat×Spec:=(46,Ac Qe2 VY M)
def Qk9 (JT A8:Fn):Cfg:=cp [Zym JT,QE A8] [84,45]
def Qxh (JT A8:Fn):Fn:=Am PG (Qk9 JT A8) 64 46 Qe2 VY
theorem Zy4 (JT A8:Fn) (x0:Rw):Qxh JT A8 [.view Aa x0]=
 (A8 [.view Aa x0]).bind fun o4=>
 (JT [.view Aa (wA o4 0),jA o4 1]).bind fun o5=>
 (JT [.view Aa (wA o5 10),jA o5 11]).bind fun o6=>
 (JT [.view Aa (wA o6 10),jA o6 11]).bind fun o7=>
 some [jA o5 0,jA o5 1,jA o5 2,jA o5 3,jA o5 4,jA o5 5,jA o5 6,jA o5 7,jA o5 8, .view Aa (wA o5 9),jA o6 0,jA o6 1,jA o6 2,jA o6 3,jA o6 4,jA o6 5,jA o6 6,jA o6 7,jA o6 8, .view Aa (wA o6 9),jA o7 0,jA o7 1,jA o7 2,jA o7 3,jA o7 4,jA o7 5,jA o7 6,jA o7 7,jA o7 8, .view Aa (wA o7 9)]:=by kernel_rfl
def NE:=Qxh Nm Co
theorem Z2s:Ai PG (Qk9 Nm Co):=Ao rfl ⟨Zdn,Pi,trivial⟩
theorem Zfz:Aj PG (46,Ac Qe2 VY NE):=rw1 (C:=(Qk9 Nm Co)) Z2s
def Qmk:Sk:=⟨[tf [CS.sl Aa],tf [CS.sl Aa]],[],[]⟩
def Qo7:Sk:=⟨[TS.v true (cc 9++[CS.sl Aa]++cc 9++[CS.sl Aa]++cc 9++[CS.sl Aa]++cc 5)],[],[]⟩
def Zzc (M:Fn):Nat×Spec:=(15,Ac Qmk Qo7 M)
def WH (Aq Ne NL A8:Fn):Cfg:=cp [Ji Aq,Zyy Ne,Z61 NL,QE A8] [48,45]
def Qnb (Aq Ne NL A8:Fn):Fn:=Am PG (WH Aq Ne NL A8) 64 15 Qmk Qo7
theorem Z1i (Aq Ne NL A8:Fn) (x0 x1:Rw):Qnb Aq Ne NL A8 [.view Aa x0, .view Aa x1]=
 (A8 [.view Aa x1]).bind fun o5=>
 (NL [.view Aa x0]).bind fun o6=>
 (Ne [.view Aa x1]).bind fun o7=>
 (Aq [I 60000, .view Aa (wA o5 0),I (mn 3 (x1.length:Int))]).bind fun o8=>
 (Aq [I 40, .view Aa (wA o8 1),jA o8 2]).bind fun o9=>
 some [jA o6 0,jA o6 1,jA o6 2,jA o6 3,jA o6 4,jA o6 5,jA o6 6,jA o6 7,jA o6 8, .view Aa (wA o6 9),jA o6 10,jA o6 11,jA o6 12,jA o6 13,jA o6 14,jA o6 15,jA o6 16,jA o6 17,jA o6 18, .view Aa (wA o6 19),jA o6 20,jA o6 21,jA o6 22,jA o6 23,jA o6 24,jA o6 25,jA o6 26,jA o6 27,jA o6 28, .view Aa (wA o6 29),jA o7 0,jA o7 1,jA o7 2,I (wrap .i64 (1+gA o8 0)),jA o9 0]:=by kernel_rfl
def LX:=Qnb Bv PI NE Co
theorem Zsv:Ai PG (WH Bv PI NE Co):=Ao rfl ⟨Js,Zun,Zfz,Pi,trivial⟩
theorem Zw0:Aj PG (15,Ac Qmk Qo7 LX):=rw1 (C:=(WH Bv PI NE Co)) Zsv
def YL:Sk:=⟨[tf [CS.sl [Kd.sl Aa]]],[],[]⟩
def Vr:Sk:=⟨[tf [CS.bool]],[],[]⟩
def Z1n (M:Fn):Nat×Spec:=(44,Ac YL Vr M)
def C_cncmill_Few_0:Cfg:=cf []
def Qru:Sk:=⟨[td,td,td,td,td,tf [CS.sl [Kd.sl Aa]],tf [ci],tf [ci]]++dd 7,[],[]⟩
def Q4x:List (Ex×Sk):=[(Ex.ret,⟨[td,td,tf [CS.bool]]++dd 12,[],[]⟩),(Ex.exit 0,⟨[td]++dd 14,[],[]⟩)]
def To:Lp:=AT PG C_cncmill_Few_0 64 2 (AU PG 44 2) Qru Q4x
def Qwy (N2:Lp):Cfg:=C_cncmill_Few_0.loop 2 Qru Q4x N2
def Y0 (N2:Lp):Fn:=Am PG (Qwy N2) 64 44 YL Vr
theorem Zph (v0:Rw) (v1 v2:Int):To [.view [Kd.sl Aa] v0,I v1,I v2]=
 bif decide (v2<v1)then
 bif decide (0<=v2)&&decide (v2<(v0.length:Int))then
 bif decide ((↑(wA (nth [] v0 v2.toNat) 0).length:Int)>60)then
 some (1,[B false])
 else
 some (0,[.view [Kd.sl Aa] v0,I v1,I (wrap .i64 (v2+1))])
 else
 none
 else
 some (2,[]):=by kernel_rfl
theorem Zrb (N2:Lp) (x0:Rw):Y0 N2 [.view [Kd.sl Aa] x0]=
 (N2 [.view [Kd.sl Aa] x0,I (x0.length:Int),I 0]).bind fun o1=>
 bif o1.1.beq 1 then
 some [B (bA o1.2 0)]
 else
 bif o1.1.beq 2 then
 some [B true]
 else
 none:=by kernel_rfl
def Qsm:=An (To)
def KC:=Y0 Qsm
theorem Qvz:Ai PG (C_cncmill_Few_0):=Ao rfl trivial
theorem Z5q:Aj PG (44,Ac YL Vr KC):=rw2 (C:=(Qwy Qsm)) (fl fb Qvz) Qvz
end Go.Bm
