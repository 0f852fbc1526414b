/- functions of the program and of the references, as models -/
import Derived.Test.YtommijghjlikkaaGreatMx2
set_option linter.unusedSimpArgs false
set_option linter.unusedVariables false
set_option maxRecDepth 100000
noncomputable section
open Go.IntKind (wrap)
namespace Go.Bm
open Go.Proofs
def Xg:Sk:=⟨[tf [CS.ptr 20000 0]],[(20000,103,[CS.sl Aa,ci])],[]⟩
def Wt:Sk:=⟨[TS.v true (cc 9++[CS.sl Aa])],[(20000,103,[CS.sl Aa,ci])],[]⟩
def Zhr (M:Fn):Nat×Spec:=(84,Ac Xg Wt M)
def Ql4 (At:Fn):Cfg:={spec:=H1 [Lm At],eqOk:=Jn,pure:=fun f=> !(AN [48] f),ownOff:=Ztv}
def Qo9:Sk:=⟨[tf [CS.ptr 20000 0],td,tf [CS.ptr 2 0],tf [CS.ptr 3 0],tf [ci],tf [ci],tf [ci]]++dd 72,[(2,26,cc 9++[CS.own 1002009 1]),(3,26,cc 9++[CS.own 1003009 1]),(20000,103,[CS.sl Aa,ci])],[(1002009,3,Aa),(1003009,3,Aa)]⟩
def Qth:List (Ex×Sk):=[(Ex.exit 0,⟨[td,td,tf [CS.ptr 2 0],tf [CS.ptr 3 0]]++dd 75,[(2,26,cc 9++[CS.own 1002009 1]),(3,26,cc 9++[CS.own 1003009 1]),(20000,103,[CS.sl Aa,ci])],[(1002009,3,Aa),(1003009,3,Aa)]⟩)]
def QE (At:Fn):Lp:=A4 PG (Ql4 At) 64 11 (A0 PG 84 11) Qo9 Qth
def Qwr (At:Fn) (N11:Lp):Cfg:=(Ql4 At).loop 11 Qo9 Qth N11
def Qbe (At:Fn) (N11:Lp):Fn:=Am PG (Qwr At N11) 64 84 Xg Wt
theorem Q0g (At:Fn) (v0 v1:Rw) (v2 v3 v4 v5 v6 v7 v8 v9 v10 v11 v12 v13 v14 v15 v16 v17 v18 v19 v20 v21 v22:Int) (v23:Rw) (v24:Int):QE At [.view Aa v0, .view Aa v1,I v2,I v3,I v4,I v5,I v6,I v7,I v8,I v9,I v10,I v11,I v12,I v13,I v14,I v15,I v16,I v17,I v18,I v19,I v20,I v21,I v22, .view Aa v23,I v24]=
 bif decide (v4<v2)then
 bif((v1++[[I v3]]).length*8).ble 140737488355328 then
 (At [I (wrap .i64 (wrap .i64 (2*wrap .i64 (v22.tdiv 4))+1)), .view Aa v23,I v24]).bind fun o20=>
 some (0,[.view Aa v0, .view Aa (v1++[[I v3]]),I v2,I (mn (mx (wrap .i64 (wrap .i64 (v3+gA o20 0)-wrap .i64 (v22.tdiv 4))) (-4096)) 4096),I (wrap .i64 (v4+1)),I v5,I v6,I v7,I v8,I v9,I v10,I v11,I v12,I v13,I v14,I v15,I v16,I v17,I v18,I v19,I v20,I v21,I v22, .view Aa (wA o20 1),jA o20 2])
 else
 none
 else
 some (1,[.view Aa v0, .view Aa v1,I v5,I v6,I v7,I v8,I v9,I v10,I v11,I v12,I v13,I v14,I v15,I v16,I v17,I v18,I v19,I v20,I v21,I v22, .view Aa v23,I v24]):=by kernel_rfl
theorem Ztq (At:Fn) (N11:Lp) (x0:Rw) (x1:Int):Qbe At N11 [.view Aa x0,I x1]=
 (At [I 6, .view Aa x0,I x1]).bind fun o21=>
 bif decide (0<=gA o21 0)&&decide (gA o21 0<(↑[[I 8],[I 4],[I 5],[I 16],[I 23],[I 64]].length:Int))then
 (At [I 4, .view Aa (wA o21 1),jA o21 2]).bind fun o22=>
 bif decide (0<=gA o22 0)&&decide (gA o22 0<(↑[[I 0],[I 1],[I 3],[I 6]].length:Int))then
 (At [I 5, .view Aa (wA o22 1),jA o22 2]).bind fun o23=>
 bif decide (0<=gA o23 0)&&decide (gA o23 0<(↑[[I 40],[I 1],[I 3],[I 9],[I 1000]].length:Int))then
 (At [I 5, .view Aa (wA o23 1),jA o23 2]).bind fun o24=>
 bif decide (0<=gA o24 0)&&decide (gA o24 0<(↑[[I 20],[I 2],[I 3],[I 5],[I 1000]].length:Int))then
 (At [I 5, .view Aa (wA o24 1),jA o24 2]).bind fun o25=>
 bif decide (0<=gA o25 0)&&decide (gA o25 0<(↑[[I 30],[I 4],[I 5],[I 8],[I 1000]].length:Int))then
 (At [I 5, .view Aa (wA o25 1),jA o25 2]).bind fun o26=>
 bif gA o26 0==0 then
 some [I (Af (nth .dead (nth [] [[I 8],[I 4],[I 5],[I 16],[I 23],[I 64]] (gA o21 0).toNat) 0)),I (Af (nth .dead (nth [] [[I 40],[I 1],[I 3],[I 9],[I 1000]] (gA o23 0).toNat) 0)),I (Af (nth .dead (nth [] [[I 20],[I 2],[I 3],[I 5],[I 1000]] (gA o24 0).toNat) 0)),I (Af (nth .dead (nth [] [[I 30],[I 4],[I 5],[I 8],[I 1000]] (gA o25 0).toNat) 0)),I (-16777216),I 16777216,I (Af (nth .dead (nth [] [[I 0],[I 1],[I 3],[I 6]] (gA o22 0).toNat) 0)),I 0,I 0, .view Aa [], .view Aa (wA o26 1),jA o26 2]
 else
 (At [I 400, .view Aa (wA o26 1),jA o26 2]).bind fun o27=>
 (At [I 120, .view Aa (wA o27 1),jA o27 2]).bind fun o28=>
 (At [I 9, .view Aa (wA o28 1),jA o28 2]).bind fun o29=>
 (N11 [.view Aa [], .view Aa [],jA o26 0,I (wrap .i64 (gA o29 0-4)),I 0,I 0,I 0,I 0,I 0,I 0,I 0,I 0,I 0,I 0,I (Af (nth .dead (nth [] [[I 8],[I 4],[I 5],[I 16],[I 23],[I 64]] (gA o21 0).toNat) 0)),I (Af (nth .dead (nth [] [[I 40],[I 1],[I 3],[I 9],[I 1000]] (gA o23 0).toNat) 0)),I (Af (nth .dead (nth [] [[I 20],[I 2],[I 3],[I 5],[I 1000]] (gA o24 0).toNat) 0)),I (Af (nth .dead (nth [] [[I 30],[I 4],[I 5],[I 8],[I 1000]] (gA o25 0).toNat) 0)),I (-16777216),I 16777216,I (Af (nth .dead (nth [] [[I 0],[I 1],[I 3],[I 6]] (gA o22 0).toNat) 0)),I (wrap .i64 (gA o27 0-200)),I (wrap .i64 (4+gA o28 0)), .view Aa (wA o29 1),jA o29 2]).bind fun o30=>
 bif o30.1.beq 1 then
 some [jA o30.2 11,jA o30.2 12,jA o30.2 13,jA o30.2 14,jA o30.2 15,jA o30.2 16,jA o30.2 17,jA o30.2 18,jA o30.2 19, .view Aa (wA o30.2 1), .view Aa (wA o30.2 20),jA o30.2 21]
 else
 none
 else
 none
 else
 none
 else
 none
 else
 none
 else
 none:=by kernel_rfl
def Ql8:=An (QE Cj)
def L3:=Qbe Cj Ql8
theorem Qn8:Aj PG (Ql4 Cj):=Ao rfl ⟨KU,trivial⟩
theorem Zt6:Al PG (84,Ac Xg Wt L3):=rw2 (C:=(Qwr Cj Ql8)) (fl fb Qn8) Qn8
def U0:Sk:=⟨[tf [CS.sl Aa]],[],[]⟩
def Qk0:Sk:=⟨[TS.v true (cc 9++[CS.sl Aa]++cc 9++[CS.sl Aa]++cc 9++[CS.sl Aa])],[],[]⟩
def Zsv (M:Fn):Nat×Spec:=(46,Ac U0 Qk0 M)
def Y1 (JV BI:Fn):Cfg:=cp [Zhr JV,QJ BI] [84,45]
def Q3x (JV BI:Fn):Fn:=Am PG (Y1 JV BI) 64 46 U0 Qk0
theorem Zv6 (JV BI:Fn) (x0:Rw):Q3x JV BI [.view Aa x0]=
 (BI [.view Aa x0]).bind fun o4=>
 (JV [.view Aa (wA o4 0),jA o4 1]).bind fun o5=>
 (JV [.view Aa (wA o5 10),jA o5 11]).bind fun o6=>
 (JV [.view Aa (wA o6 10),jA o6 11]).bind fun o7=>
 some [jA o5 0,jA o5 1,jA o5 2,jA o5 3,jA o5 4,jA o5 5,jA o5 6,jA o5 7,jA o5 8, .view Aa (wA o5 9),jA o6 0,jA o6 1,jA o6 2,jA o6 3,jA o6 4,jA o6 5,jA o6 6,jA o6 7,jA o6 8, .view Aa (wA o6 9),jA o7 0,jA o7 1,jA o7 2,jA o7 3,jA o7 4,jA o7 5,jA o7 6,jA o7 7,jA o7 8, .view Aa (wA o7 9)]:=by kernel_rfl
def NR:=Q3x L3 DA
theorem Zim:Aj PG (Y1 L3 DA):=Ao rfl ⟨Zt6,SA,trivial⟩
theorem Ziq:Al PG (46,Ac U0 Qk0 NR):=rw1 (C:=(Y1 L3 DA)) Zim
def XK:Sk:=⟨[tf [CS.sl Aa],tf [CS.sl Aa]],[],[]⟩
def Qku:Sk:=⟨[TS.v true (cc 9++[CS.sl Aa]++cc 9++[CS.sl Aa]++cc 9++[CS.sl Aa]++cc 5)],[],[]⟩
def Zj7 (M:Fn):Nat×Spec:=(15,Ac XK Qku M)
def Wf (At NN Ob BI:Fn):Cfg:=cp [Lm At,Zjm NN,Zsv Ob,QJ BI] [48,45]
def Qcf (At NN Ob BI:Fn):Fn:=Am PG (Wf At NN Ob BI) 64 15 XK Qku
theorem Zcl (At NN Ob BI:Fn) (x0 x1:Rw):Qcf At NN Ob BI [.view Aa x0, .view Aa x1]=
 (BI [.view Aa x1]).bind fun o5=>
 (Ob [.view Aa x0]).bind fun o6=>
 (NN [.view Aa x1]).bind fun o7=>
 (At [I 60000, .view Aa (wA o5 0),I (mn 3 (x1.length:Int))]).bind fun o8=>
 (At [I 40, .view Aa (wA o8 1),jA o8 2]).bind fun o9=>
 some [jA o6 0,jA o6 1,jA o6 2,jA o6 3,jA o6 4,jA o6 5,jA o6 6,jA o6 7,jA o6 8, .view Aa (wA o6 9),jA o6 10,jA o6 11,jA o6 12,jA o6 13,jA o6 14,jA o6 15,jA o6 16,jA o6 17,jA o6 18, .view Aa (wA o6 19),jA o6 20,jA o6 21,jA o6 22,jA o6 23,jA o6 24,jA o6 25,jA o6 26,jA o6 27,jA o6 28, .view Aa (wA o6 29),jA o7 0,jA o7 1,jA o7 2,I (wrap .i64 (1+gA o8 0)),jA o9 0]:=by kernel_rfl
def Ki:=Qcf Cj PK NR DA
theorem Zx7:Aj PG (Wf Cj PK NR DA):=Ao rfl ⟨KU,Q8h,Ziq,SA,trivial⟩
theorem Ztd:Al PG (15,Ac XK Qku Ki):=rw1 (C:=(Wf Cj PK NR DA)) Zx7
def Qnx:Sk:=⟨[tf [CS.sl [Kd.sl Aa]]],[],[]⟩
def Qlt:Sk:=⟨[tf [CS.bool]],[],[]⟩
def Zmn (M:Fn):Nat×Spec:=(44,Ac Qnx Qlt M)
def C_cncmill_Few_0:Cfg:=cf []
def Qyw:Sk:=⟨[td,td,td,td,td,tf [CS.sl [Kd.sl Aa]],tf [ci],tf [ci]]++dd 7,[],[]⟩
def Qsp:List (Ex×Sk):=[(Ex.ret,⟨[td,td,tf [CS.bool]]++dd 12,[],[]⟩),(Ex.exit 0,⟨[td]++dd 14,[],[]⟩)]
def SQ:Lp:=A4 PG C_cncmill_Few_0 64 2 (A0 PG 44 2) Qyw Qsp
def Q4m (N2:Lp):Cfg:=C_cncmill_Few_0.loop 2 Qyw Qsp N2
def Xf (N2:Lp):Fn:=Am PG (Q4m N2) 64 44 Qnx Qlt
theorem Q8m (v0:Rw) (v1 v2:Int):SQ [.view [Kd.sl Aa] v0,I v1,I v2]=
 bif decide (v2<v1)then
 bif decide (0<=v2)&&decide (v2<(v0.length:Int))then
 bif decide ((↑(wA (nth [] v0 v2.toNat) 0).length:Int)>60)then
 some (1,[B false])
 else
 some (0,[.view [Kd.sl Aa] v0,I v1,I (wrap .i64 (v2+1))])
 else
 none
 else
 some (2,[]):=by kernel_rfl
theorem Zbi (N2:Lp) (x0:Rw):Xf N2 [.view [Kd.sl Aa] x0]=
 (N2 [.view [Kd.sl Aa] x0,I (x0.length:Int),I 0]).bind fun o1=>
 bif o1.1.beq 1 then
 some [B (bA o1.2 0)]
 else
 bif o1.1.beq 2 then
 some [B true]
 else
 none:=by kernel_rfl
def Q2n:=An (SQ)
def JL:=Xf Q2n
theorem Q5z:Aj PG (C_cncmill_Few_0):=Ao rfl trivial
theorem Q7w:Al PG (44,Ac Qnx Qlt JL):=rw2 (C:=(Q4m Q2n)) (fl fb Q5z) Q5z
def Qel:Sk:=⟨[tf [ci]],[],[]⟩
def YE:Sk:=⟨[tf [CS.bool]],[],[]⟩
def Zge (M:Fn):Nat×Spec:=(33,Ac Qel YE M)
def Z7:Cfg:=cf []
def Qf7:Fn:=Am PG Z7 64 33 Qel YE
theorem Zjn (x0:Int):Qf7 [I x0]=
 bif decide (x0>=1)then
 some [B (decide (x0<=6))]
 else
 some [B false]:=by kernel_rfl
def LX:=Qf7
theorem Zub:Aj PG (Z7):=Ao rfl trivial
theorem Zff:Al PG (33,Ac Qel YE LX):=rw1 (C:=Z7) Zub
end Go.Bm
