/- functions of the program and of the references, as models -/
import Derived.Test.YtommijghjlikkaaGreatMx3
set_option linter.unusedSimpArgs false
set_option linter.unusedVariables false
set_option maxRecDepth 100000
noncomputable section
open Go.IntKind (wrap)
namespace Go.Bm
open Go.Proofs
def Xu:Sk:=⟨[tf [CS.sl kPt],tf [ci]],[],[]⟩
def Z0i (M:Fn):Nat×Spec:=(22,Ad Xu Qai M)
def C_cnclaw43_at_0:Cfg:={cf []with prom:=λb=>bif Nat.beq b 3 then [(5,69)]else []}
def Qzf:Sk:=⟨[td,tf [ci],td,td,td,tf [CS.own 5 3],td,td,tf [CS.sl kPt],tf [ci],tf [ci]]++dd 13,[],[(5,69,kPt)]⟩
def Q0f:List (Ex×Sk):=[(Ex.exit 0,⟨[td,td,td,td,td,tf [CS.own 5 3]]++dd 18,[],[(5,69,kPt)]⟩)]
def TF:Lp:=AW PG C_cnclaw43_at_0 64 3 (AV PG 22 3) Qzf Q0f
def Zab (D:Lp):Cfg:=C_cnclaw43_at_0.loop 3 Qzf Q0f D
def Qgw (D:Lp):Fn:=An PG (Zab D) 64 22 Xu Qai
theorem Zox (v0:Rw) (G:Int) (E:Rw) (J D:Int):TF [.view kPt v0,I G, .view kPt E,I J,I D]=
 bif decide (D<J)then
 bif decide (0<=D)&&decide (D<(E.length:Int))then
 bif gA (nth [] E D.toNat) 0==G then
 bif((v0++[[jA (nth [] E D.toNat) 0,jA (nth [] E D.toNat) 1,jA (nth [] E D.toNat) 2]]).length*24).ble 140737488355328 then
 some (0,[.view kPt (v0++[[jA (nth [] E D.toNat) 0,jA (nth [] E D.toNat) 1,jA (nth [] E D.toNat) 2]]),I G, .view kPt E,I J,I (wrap .i64 (D+1))])
 else
 none
 else
 some (0,[.view kPt v0,I G, .view kPt E,I J,I (wrap .i64 (D+1))])
 else
 none
 else
 some (1,[.view kPt v0]):=by kernel_rfl
theorem Zi3 (E:Lp) (D:Rw) (G:Int):Qgw E [.view kPt D,I G]=
 (E [.view kPt [],I G, .view kPt D,I (D.length:Int),I 0]).bind λo1=>
 bif o1.1.beq 1 then
 some [.view kPt (wA o1.2 0)]
 else
 none:=by kernel_rfl
def Qwd:=Al (TF)
def J2:=Qgw Qwd
theorem Q9o:Aj PG (C_cnclaw43_at_0):=Ap rfl trivial
theorem Ztg:Am PG (22,Ad Xu Qai J2):=rw2 (C:=(Zab Qwd)) (fl fb Q9o) Q9o
def Qnk:Sk:=⟨[tf [CS.sl Aa],tf [CS.sl Aa],tf [CS.sl Aa],tf [CS.sl Aa]],[],[]⟩
def Zip (M:Fn):Nat×Spec:=(14,Ad Qnk Qpq M)
def Qcl (D:Fn):Cfg:=cf [Z6v D]
def Qoe (D:Fn):Fn:=An PG (Qcl D) 64 14 Qnk Qpq
theorem Zx2 (D:Fn) (E G I J:Rw):Qoe D [.view Aa E, .view Aa G, .view Aa I, .view Aa J]=
 (D [.view [Kd.sl Aa] [[.view Aa E],[.view Aa G],[.view Aa I],[.view Aa J]]]).bind λo1=>
 some [B (bA o1 0)]:=by kernel_rfl
def Lk:=Qoe La
theorem Z6w:Aj PG (Qcl La):=Ap rfl ⟨Zka,trivial⟩
theorem Zl1:Am PG (14,Ad Qnk Qpq Lk):=rw1 (C:=(Qcl La)) Z6w
def Z6s (M:Fn):Nat×Spec:=(13,Ad ZS Qpq M)
def XK (D E:Fn):Cfg:=cp [Zc5 D,Qy4 E] [21,20]
def XC (D E:Fn):Fn:=An PG (XK D E) 64 13 ZS Qpq
theorem Zwm (D E:Fn):XC D E []=
 (E [I 8,I 10,I 10,I 10,I (-16777216),I 16777216,I 0,I 0,I 0, .view Aa [],I 8,I 10,I 10,I 10,I (-16777216),I 16777216,I 0,I 0,I 0, .view Aa [],I 8,I 10,I 10,I 10,I (-16777216),I 16777216,I 0,I 0,I 0, .view Aa [],I 9,I 3,I 100,I 1,I 0, .view Ai [],B true]).bind λG=>
 (E [I 8,I 10,I 10,I 10,I (-16777216),I 16777216,I 0,I 0,I 0, .view Aa [],I 8,I 10,I 10,I 10,I (-16777216),I 16777216,I 0,I 0,I 0, .view Aa [],I 8,I 10,I 10,I 10,I (-16777216),I 16777216,I 0,I 0,I 0, .view Aa [],I 9,I 3,I 100,I 1,I 0, .view Ai [[I 12,I 0,I 0,I 0,I 0,I 0,I 0,I 0,I 0,I 0,I 0,I 0,I 0,B false,I 0,B false,I 0,I 0,I 0,I 0,I 0,B false]],B true]).bind λJ=>
 bif gA G 0 !=0 then
 some [B false]
 else
 bif gA J 0 !=0 then
 some [B false]
 else
 (D (.view kPt []::cR 1 G)).bind λM=>
 bif gA M 2==7 then
 (D (.view kPt []::cR 1 J)).bind λL=>
 bif gA L 2==2 then
 (D (.view kPt [[I 0,I 4,I 0]]::cR 9 L)).bind λN=>
 some [B (gA N 2==3)]
 else
 some [B false]
 else
 some [B false]:=by kernel_rfl
def KI:=XC Gy Gw
theorem Zkl:Aj PG (XK Gy Gw):=Ap rfl ⟨Q7f,Za7,trivial⟩
theorem Zej:Am PG (13,Ad ZS Qpq KI):=rw1 (C:=(XK Gy Gw)) Zkl
def Q48:Sk:=⟨[tf [CS.sl Aa],tf [CS.sl Aa],tf [CS.sl Aa],tf [CS.sl Aa],tf [ci]],[],[]⟩
def Qin (D E G I J L M N O S T:Fn):Cfg:=cp [Z0x D,Zc5 E,Z0i G,Z7q I,Qy4 J,Z2n L,Z45 M,Qxk N,Zlq O,Zip S,Z6s T] [32,21,26,20]
def Q0y:Sk:=⟨dd 12++[tf [CS.sl Ai],tf [CS.sl kPt],tf [CS.ptr 104400 0],td,tf [CS.sl kPt],tf [ci],tf [ci],tf [ci],tf [CS.ptr 20 0]]++dd 54++[tf [CS.sl Aa],tf [ci],tf [ci]]++dd 77,[(20,46,[CS.sl kPt,CS.sl Aa]++cc 7),(104400,119,cS)],[]⟩
def Q27:List (Ex×Sk):=[(Ex.ret,⟨dd 10++[tf [CS.bool]]++dd 144,[],[]⟩),(Ex.exit 2,⟨dd 12++[tf [CS.sl Ai],tf [CS.sl kPt],tf [CS.ptr 104400 0],td,tf [CS.sl kPt],tf [ci],tf [ci],tf [ci],tf [CS.ptr 20 0]]++dd 134,[(20,46,[CS.sl kPt,CS.sl Aa]++cc 7),(104400,119,cS)],[]⟩)]
def IX (D E G I J L M N O S T:Fn):Lp:=AW PG (Qin D E G I J L M N O S T) 64 16 (AV PG 6 16) Q0y Q27
def Q7h (E G I J L M N O S T U:Fn) (D:Lp):Cfg:=(Qin E G I J L M N O S T U).loop 16 Q0y Q27 D
def Qto:Sk:=⟨dd 12++[tf [CS.sl Ai],tf [CS.sl kPt],tf [CS.ptr 104400 0],td,tf [CS.sl kPt],tf [ci],tf [ci],tf [ci],td,td,td,tf [ci]]++dd 131,[(104400,119,cS)],[]⟩
def Q2m:List (Ex×Sk):=[(Ex.ret,⟨dd 10++[tf [CS.bool]]++dd 144,[],[]⟩),(Ex.exit 4,⟨dd 12++[tf [CS.sl Ai],tf [CS.sl kPt],tf [CS.ptr 104400 0],td,tf [CS.sl kPt],tf [ci],tf [ci],tf [ci]]++dd 135,[(104400,119,cS)],[]⟩)]
def NS (E G I J L M N O S T U:Fn) (D:Lp):Lp:=AW PG (Q7h E G I J L M N O S T U D) 64 27 (AV PG 6 27) Qto Q2m
def Qwz (G I J L M N O S T U V:Fn) (D E:Lp):Cfg:=(Q7h G I J L M N O S T U V D).loop 27 Qto Q2m E
def Q28:Sk:=⟨dd 12++[tf [CS.sl Ai],tf [CS.sl kPt],tf [CS.ptr 104400 0],td,tf [CS.sl kPt],tf [ci],tf [ci],tf [ci]]++dd 135,[(104400,119,cS)],[]⟩
def Q56:List (Ex×Sk):=[(Ex.ret,⟨dd 10++[tf [CS.bool]]++dd 144,[],[]⟩),(Ex.exit 0,⟨dd 14++[tf [CS.ptr 104400 0],td,td,td,tf [ci]]++dd 136,[(104400,119,cS)],[]⟩)]
def Vd (G I J L M N O S T U V:Fn) (D E:Lp):Lp:=AW PG (Qwz G I J L M N O S T U V D E) 64 12 (AV PG 6 12) Q28 Q56
def Qsv (I J L M N O S T U V X:Fn) (D E G:Lp):Cfg:=(Qwz I J L M N O S T U V X D E).loop 12 Q28 Q56 G
def Qg4 (I J L M N O S T U V X:Fn) (D E G:Lp):Fn:=An PG (Qsv I J L M N O S T U V X D E G) 64 6 Q48 Qpq
theorem Zhx (Ds BY Do Dd B0 Du Dv Ce Dl Dw Dn:Fn) (v0 S O:Rw) (Y T U:Int) (E:Rw) (V D:Int) (X v10:Rw) (v11 v12 G J L M N:Int) (K:Kf) (c:Cv):IX Ds BY Do Dd B0 Du Dv Ce Dl Dw Dn (.view Ai v0:: .view kPt S:: .view kPt O::I Y::I T::I U:: .view Aa E::I V::I D:: .view kPt X:: .view Aa v10::I v11::I v12::I G::I J::I L::I M::I N::Ab K c)=
 bif decide (D<V)then
 bif decide (0<=D)&&decide (D<(E.length:Int))then
 bif decide (gA (nth [] E D.toNat) 0<=Y)then
 some (1,[B false])
 else
 bif decide (gA (nth [] E D.toNat) 0>=(v0.length:Int))then
 some (1,[B false])
 else
 bif decide (0<=gA (nth [] E D.toNat) 0)&&decide (gA (nth [] E D.toNat) 0<(v0.length:Int))then
 bif gA (nth [] v0 (gA (nth [] E D.toNat) 0).toNat) 0 !=10 then
 some (1,[B false])
 else
 bif decide (0<=gA (nth [] E D.toNat) 0)&&decide (gA (nth [] E D.toNat) 0<(O.length:Int))then
 bif decide (gA (nth [] O (gA (nth [] E D.toNat) 0).toNat) 0>v12)then
 some (1,[B false])
 else
 bif decide (0<=gA (nth [] E D.toNat) 0)&&decide (gA (nth [] E D.toNat) 0<(v0.length:Int))then
 bif decide (wrap .u64 (gA (nth [] v0 (gA (nth [] E D.toNat) 0).toNat) 19)<0)then
 none
 else
 bif decide (0<=gA (nth [] E D.toNat) 0)&&decide (gA (nth [] E D.toNat) 0<(v0.length:Int))then
 bif bA (nth [] v0 (gA (nth [] E D.toNat) 0).toNat) 21 then
 bif decide (0<=gA (nth [] E D.toNat) 0)&&decide (gA (nth [] E D.toNat) 0<(v0.length:Int))then
 bif decide (wrap .u64 (gA (nth [] v0 (gA (nth [] E D.toNat) 0).toNat) 19)<0)then
 none
 else
 some (0,(.view Ai v0:: .view kPt S:: .view kPt O::jA (nth [] E D.toNat) 0::I (wrap .i64 (↑(BitVec.ofInt IntKind.i64.bits (wrap .i64 (↑(BitVec.ofInt IntKind.i64.bits T&&& ~~~BitVec.ofInt IntKind.i64.bits (wrap .i64 (1*2^min (wrap .u64 (gA (nth [] v0 (gA (nth [] E D.toNat) 0).toNat) 19)).toNat IntKind.i64.bits))).toNat:Int))|||BitVec.ofInt IntKind.i64.bits (wrap .i64 (1*2^min (wrap .u64 (gA (nth [] v0 (gA (nth [] E D.toNat) 0).toNat) 19)).toNat IntKind.i64.bits))).toNat:Int))::I U:: .view Aa E::I V::I (wrap .i64 (D+1)):: .view kPt X:: .view Aa v10::I v11::I v12::I G::I J::I L::I M::I N::Ab K c))
 else
 none
 else
 some (0,(.view Ai v0:: .view kPt S:: .view kPt O::jA (nth [] E D.toNat) 0::I (wrap .i64 (↑(BitVec.ofInt IntKind.i64.bits T&&& ~~~BitVec.ofInt IntKind.i64.bits (wrap .i64 (1*2^min (wrap .u64 (gA (nth [] v0 (gA (nth [] E D.toNat) 0).toNat) 19)).toNat IntKind.i64.bits))).toNat:Int))::I U:: .view Aa E::I V::I (wrap .i64 (D+1)):: .view kPt X:: .view Aa v10::I v11::I v12::I G::I J::I L::I M::I N::Ab K c))
 else
 none
 else
 none
 else
 none
 else
 none
 else
 none
 else
 some (2,(.view Ai v0:: .view kPt S:: .view kPt O::I Y::I T::I U:: .view kPt X:: .view Aa v10::I v11::I v12::I G::I J::I L::I M::I N::Ab K c)):=by kernel_rfl
theorem Z4d (O S T U V X Y Ce Dl Dw Dn:Fn) (E:Lp) (v0 G J:Rw) (L M N D:Int) (K:Kf) (c:Cv):NS O S T U V X Y Ce Dl Dw Dn E (.view Ai v0:: .view kPt G:: .view kPt J::I L::I M::I N::I D::Ab K c)=
 bif decide (D<wrap .i64 ((v0.length:Int)-1))then
 bif decide (0<=D)&&decide (D<(v0.length:Int))then
 bif gA (nth [] v0 D.toNat) 0==10 then
 some (1,[B false])
 else
 some (0,(.view Ai v0:: .view kPt G:: .view kPt J::I L::I M::I N::I (wrap .i64 (D+1))::Ab K c))
 else
 none
 else
 some (2,(.view Ai v0:: .view kPt G:: .view kPt J::I L::I M::I N::Ab K c)):=by kernel_rfl
theorem Zss (Y T U Dd B0 Du Dv Ce Dl Dw Dn:Fn) (J L:Lp) (v0 N V:Rw) (X O M:Int) (K:Kf) (c:Cv):Vd Y T U Dd B0 Du Dv Ce Dl Dw Dn J L (.view Ai v0:: .view kPt N:: .view kPt V::I X::I O::I M::Ab K c)=
 bif decide (M<120)then
 (U [.view kPt N,I M]).bind λS=>
 (T (.view kPt (wA S 0)::Ab K c)).bind λE=>
 (J (.view Ai v0:: .view kPt N:: .view kPt V::I X::I O::I M:: .view Aa (wA E 1)::I (↑(wA E 1).length:Int)::I 0:: .view kPt (wA E 0):: .view Aa (wA E 1)::jA E 2::jA E 3::jA E 4::jA E 5::jA E 6::jA E 7::jA E 8::cR 9 E)).bind λD=>
 bif D.1.beq 1 then
 some (1,[B (bA D.2 0)])
 else
 bif D.1.beq 2 then
 bif gA D.2 8==7 then
 (L (.view Ai (wA D.2 0):: .view kPt (wA D.2 1):: .view kPt (wA D.2 2)::jA D.2 3::jA D.2 4::jA D.2 5::I (wrap .i64 (gA D.2 3+1))::cR 15 D.2)).bind λG=>
 bif G.1.beq 1 then
 some (1,[B (bA G.2 0)])
 else
 bif G.1.beq 2 then
 some (0,(.view Ai (wA G.2 0):: .view kPt (wA G.2 1):: .view kPt (wA G.2 2)::jA G.2 3::jA G.2 4::I (wrap .i64 (gA G.2 5+1))::cR 6 G.2))
 else
 none
 else
 some (0,(.view Ai (wA D.2 0):: .view kPt (wA D.2 1):: .view kPt (wA D.2 2)::jA D.2 3::jA D.2 4::I (wrap .i64 (gA D.2 5+1))::cR 15 D.2))
 else
 none
 else
 some (2,(I O::Ab K c)):=by kernel_rfl
theorem Zkz (Ds BY Do O B0 Du Dv Ce Dl Dw Dn:Fn) (S T J:Lp) (U V X Y:Rw) (x4:Int):Qg4 Ds BY Do O B0 Du Dv Ce Dl Dw Dn S T J [.view Aa U, .view Aa V, .view Aa X, .view Aa Y,I x4]=
 (Dn []).bind λa0=>
 bif !bA a0 0 then
 some [B false]
 else
 (Dw [.view Aa U, .view Aa V, .view Aa X, .view Aa Y]).bind λa1=>
 bif !bA a1 0 then
 some [B true]
 else
 (Dl [.view Aa V, .view Aa X]).bind λD=>
 (Ce [I x4,I 9]).bind λa2=>
 (Dv [.view Aa U,jA a2 0,B true]).bind λG=>
 (Du [.view Aa Y]).bind λa3=>
 (B0 [jA D 0,jA D 1,jA D 2,jA D 3,jA D 4,jA D 5,jA D 6,jA D 7,jA D 8, .view Aa (wA D 9),jA D 10,jA D 11,jA D 12,jA D 13,jA D 14,jA D 15,jA D 16,jA D 17,jA D 18, .view Aa (wA D 19),jA D 20,jA D 21,jA D 22,jA D 23,jA D 24,jA D 25,jA D 26,jA D 27,jA D 28, .view Aa (wA D 29),jA D 30,jA D 31,jA D 32,jA D 33,jA D 34, .view Ai (wA G 0),B true]).bind λL=>
 bif gA L 0 !=0 then
 some [B false]
 else
 (O (cR 1 L)).bind λM=>
 bif(↑(wA M 4).length:Int) !=(↑(wA G 0).length:Int)then
 some [B false]
 else
 (O (cR 5 M)).bind λN=>
 (J (.view Ai (wA G 0):: .view kPt (wA a3 0):: .view kPt (wA N 4)::I (-1)::I 0::I 0::cR 5 N)).bind λE=>
 bif E.1.beq 1 then
 some [B (bA E.2 0)]
 else
 bif E.1.beq 2 then
 (Ds (cR 1 E.2)).bind λa4=>
 some [B (gA a4 0==gA E.2 0)]
 else
 none:=by kernel_rfl
def UM:=Al (IX Kc Gy J2 Km Gw KF JJ G6 Jq Lk KI)
def Qo6:=Al (NS Kc Gy J2 Km Gw KF JJ G6 Jq Lk KI UM)
def Q7c:=Al (Vd Kc Gy J2 Km Gw KF JJ G6 Jq Lk KI UM Qo6)
def Qyb:=Qg4 Kc Gy J2 Km Gw KF JJ G6 Jq Lk KI UM Qo6 Q7c
theorem UX:Aj PG (Qin Kc Gy J2 Km Gw KF JJ G6 Jq Lk KI):=Ap rfl ⟨Z1t,Q7f,Ztg,Zkm,Za7,Zz8,Zxb,Qt7,Z56,Zl1,Zej,trivial⟩
theorem Z6o:∀(args:List TV) (v:TV) (mem:Mem),(Ad Q48 Qpq Qyb (TV×Mem) args ⟨[],[]⟩ λv m=>some (v,m))=some (v,mem)->PCallM PG 6 args ⟨[],[]⟩ v mem:=λargs v mem h=>Z9v (f:=6) (C:=(Qsv Kc Gy J2 Km Gw KF JJ G6 Jq Lk KI UM Qo6 Q7c)) (L:=64) (by kernel_rfl) ((((FnOK.bare rfl rfl rfl).loop UX eqOk F1 (by kernel_rfl) (by kernel_rfl)).loop UX eqOk F1 (by kernel_rfl) (by kernel_rfl)).loop UX eqOk F1 (by kernel_rfl) (by kernel_rfl)) UX eqOk F1 (by kernel_rfl) (by kernel_rfl) args v mem h
end Go.Bm
