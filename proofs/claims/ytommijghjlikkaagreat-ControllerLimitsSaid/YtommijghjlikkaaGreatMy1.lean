/- functions of the program and of the references, as models -/
import Derived.Test.YtommijghjlikkaaGreatMx3
set_option linter.unusedSimpArgs false
set_option linter.unusedVariables false
set_option maxRecDepth 100000
noncomputable section
namespace Go.Bm
open Go.Proofs
def Ys:Sk:=⟨[tf [sa kPt],tf [ci]],[],[]⟩
def Z3h:=qa 22 Ys Qb8
def C_cnclaw43_at_0:Cfg:={cf []with prom:=λb=>cond (Nat.beq b 3) ([(5,69)]) ([])}
def Q1w:Sk:=⟨[td,tf [ci],td,td,td,tf [se 5 3],td,td,tf [sa kPt],tf [ci],tf [ci]]++dd 13,[],[(5,69,kPt)]⟩
def Q2w:List (Ex×Sk):=[(Ex.exit 0,⟨[td,td,td,td,td,tf [se 5 3]]++dd 18,[],[(5,69,kPt)]⟩)]
def UC:Lp:=A9 PG C_cnclaw43_at_0 64 3 (A8 PG 22 3) Q1w Q2w
def Zc3 (D:Lp):Cfg:=C_cnclaw43_at_0.loop 3 Q1w Q2w D
def Qis (D:Lp):Fn:=Ao PG (Zc3 D) 64 22 Ys Qb8
theorem Zrv (v0:Rw) (G:Int) (E:Rw) (J D:Int):UC [.vC kPt v0,I G, .vC kPt E,I J,I D]=
 cond (decide (D<J)) (cond (decide (0<=D)&&decide (D<(E.length:Int))) (cond (gA (nth [] E D.toNat) 0==G) (cond (((v0++[[jA (nth [] E D.toNat) 0,jA (nth [] E D.toNat) 1,jA (nth [] E D.toNat) 2]]).length*24).ble 140737488355328) (some (0,[.vC kPt (v0++[[jA (nth [] E D.toNat) 0,jA (nth [] E D.toNat) 1,jA (nth [] E D.toNat) 2]]),I G, .vC kPt E,I J,I (V (D+1))])) (none)) (some (0,[.vC kPt v0,I G, .vC kPt E,I J,I (V (D+1))]))) (none)) (some (1,[.vC kPt v0])):=by kernel_rfl
theorem Zl5 (E:Lp) (D:Rw) (G:Int):Qis E [.vC kPt D,I G]=
 (E [.vC kPt [],I G, .vC kPt D,I (D.length:Int),I 0]).bind λo1=>
 cond (o1.1.beq 1) (some [.vC kPt (wA o1.2 0)]) (none):=by kernel_rfl
def Qyj:=Am (UC)
def LG:=Qis Qyj
theorem Zcf:Aj PG (C_cnclaw43_at_0):=Ap rfl trivial
theorem Zwc:An PG (Z3h LG):=rw2 (C:=Zc3 Qyj) (fl fb Zcf) Zcf
def Qph:Sk:=⟨[tf [sa Aa],tf [sa Aa],tf [sa Aa],tf [sa Aa]],[],[]⟩
def Zlp:=qa 14 Qph Qrs
def Qee (D:Fn):Cfg:=cf [Z9v D]
def Qqe (D:Fn):Fn:=Ao PG (Qee D) 64 14 Qph Qrs
theorem Z03 (D:Fn) (E G I J:Rw):Qqe D [.vC Aa E, .vC Aa G, .vC Aa I, .vC Aa J]=
 (D [.vC [Kd.sl Aa] [[.vC Aa E],[.vC Aa G],[.vC Aa I],[.vC Aa J]]]).bind λo1=>
 some [B (bA o1 0)]:=by kernel_rfl
def NJ:=Qqe Ls
theorem Z9w:Aj PG (Qee Ls):=Ap rfl ⟨Znc,trivial⟩
theorem Zo1:An PG (Zlp NJ):=rw1 (C:=Qee Ls) Z9w
def Z9s:=qa 13 Qbe Qrs
def YI (D E:Fn):Cfg:=cp [Zf5 D,Q1k E] [21,20]
def YA (D E:Fn):Fn:=Ao PG (YI D E) 64 13 Qbe Qrs
theorem Zzp (D E:Fn):YA D E []=
 (E [I 8,I 10,I 10,I 10,I (-16777216),I 16777216,I 0,I 0,I 0, .vC Aa [],I 8,I 10,I 10,I 10,I (-16777216),I 16777216,I 0,I 0,I 0, .vC Aa [],I 8,I 10,I 10,I 10,I (-16777216),I 16777216,I 0,I 0,I 0, .vC Aa [],I 9,I 3,I 100,I 1,I 0, .vC Ak [],B true]).bind λG=>
 (E [I 8,I 10,I 10,I 10,I (-16777216),I 16777216,I 0,I 0,I 0, .vC Aa [],I 8,I 10,I 10,I 10,I (-16777216),I 16777216,I 0,I 0,I 0, .vC Aa [],I 8,I 10,I 10,I 10,I (-16777216),I 16777216,I 0,I 0,I 0, .vC Aa [],I 9,I 3,I 100,I 1,I 0, .vC Ak [[I 12,I 0,I 0,I 0,I 0,I 0,I 0,I 0,I 0,I 0,I 0,I 0,I 0,B false,I 0,B false,I 0,I 0,I 0,I 0,I 0,B false]],B true]).bind λJ=>
 cond (gA G 0 !=0) (some [B false]) (cond (gA J 0 !=0) (some [B false]) ((D (.vC kPt []::cR 1 G)).bind λM=>
 cond (gA M 2==7) ((D (.vC kPt []::cR 1 J)).bind λL=>
 cond (gA L 2==2) ((D (.vC kPt [[I 0,I 4,I 0]]::cR 9 L)).bind λN=>
 some [B (gA N 2==3)]) (some [B false])) (some [B false]))):=by kernel_rfl
def Mp:=YA Hi Hb
theorem Znp:Aj PG (YI Hi Hb):=Ap rfl ⟨Q96,Zdx,trivial⟩
theorem Zhl:An PG (Z9s Mp):=rw1 (C:=YI Hi Hb) Znp
def Zba:Sk:=⟨[tf [sa Aa],tf [sa Aa],tf [sa Aa],tf [sa Aa],tf [ci]],[],[]⟩
def Qsp (D E G I J L M N Fd O S T U:Fn):Cfg:={cp [Q88 D,Zf5 E,Z3h G,QO I,Z5m J,Yam L,Q1k M,Z5q N,Z76 Fd,Qzt O,Zoq S,Zlp T,Z9s U] [21,27,26,20]with lend:=λf=>AW [31] f,rowDst:=[61],prom:=λb=>cond (Nat.beq b 16) ([(19,69)]) ([])}
def Qxw:Sk:=⟨dd 11++[tf [sd 11 0],td,tf [sa kPt],tf [sd 104200 0],td,td,tf [se 61 3],tf [ci],tf [se 19 3]]++dd 48++[tf [sa kPt],tf [ci],tf [ci]]++dd 22,[(11,31,cc 9++[sa Aa]++cc 9++[sa Aa]++cc 9++[sa Aa]++cc 5),(104200,119,cS)],[(19,69,kPt),(61,44,kPt)]⟩
def Qug:List (Ex×Sk):=[(Ex.exit 2,⟨dd 11++[tf [sd 11 0],td,tf [sa kPt],tf [sd 104200 0],td,td,tf [se 61 3],tf [ci],tf [se 19 3]]++dd 73,[(11,31,cc 9++[sa Aa]++cc 9++[sa Aa]++cc 9++[sa Aa]++cc 5),(104200,119,cS)],[(19,69,kPt),(61,44,kPt)]⟩)]
def P0 (D E G I J L M N Fd O S T U:Fn):Lp:=A9 PG (Qsp D E G I J L M N Fd O S T U) 64 16 (A8 PG 5 16) Qxw Qug
def Q49 (E G I J L M N O Fd S T U V:Fn) (D:Lp):Cfg:=(Qsp E G I J L M N O Fd S T U V).loop 16 Qxw Qug D
def Qv7:Sk:=⟨dd 11++[tf [sd 11 0],td,tf [sa kPt],tf [sd 104200 0],td,td,tf [se 61 3],tf [ci]]++dd 74,[(11,31,cc 9++[sa Aa]++cc 9++[sa Aa]++cc 9++[sa Aa]++cc 5),(104200,119,cS)],[(61,44,kPt)]⟩
def Q7e:List (Ex×Sk):=[(Ex.exit 0,⟨dd 11++[tf [sd 11 0],td,td,td,td,td,tf [se 61 3]]++dd 75,[(11,31,cc 9++[sa Aa]++cc 9++[sa Aa]++cc 9++[sa Aa]++cc 5)],[(61,44,kPt)]⟩)]
def T0 (E G I J L M N O Fd S T U V:Fn) (D:Lp):Lp:=A9 PG (Q49 E G I J L M N O Fd S T U V D) 64 12 (A8 PG 5 12) Qv7 Q7e
def Zeg (G I J L M N O S Fd T U V X:Fn) (D E:Lp):Cfg:=(Q49 G I J L M N O S Fd T U V X D).loop 12 Qv7 Q7e E
def Qgw (G I J L M N O S Fd T U V X:Fn) (D E:Lp):Fn:=Ao PG (Zeg G I J L M N O S Fd T U V X D E) 64 5 Zba Qrs
theorem Ztr (B9 C4 E2 AT E7 E5 C8 E_ Fd Dp EY Fe E1:Fn) (v0 v1 v2:Rw) (v3:Int) (E:Rw) (v5 D v7 v8 v9 v10 v11 v12 G J L:Int) (M:Rw) (N O S v20 v21 v22 T v24 v25:Int) (U:Rw) (v27 v28 X v30 v31 Y v33 a0 v35:Int) (v36:Rw) (v37 v38 a1 v40 a2:Int) (K:Kf) (c:Cv):P0 B9 C4 E2 AT E7 E5 C8 E_ Fd Dp EY Fe E1 (.vC kPt v0:: .vC kPt v1:: .vC kPt v2::I v3:: .vC kPt E::I v5::I D::I v7::I v8::I v9::I v10::I v11::I v12::I G::I J::I L:: .vC Aa M::I N::I O::I S::I v20::I v21::I v22::I T::I v24::I v25:: .vC Aa U::I v27::I v28::I X::I v30::I v31::I Y::I v33::I a0::I v35:: .vC Aa v36::I v37::I v38::I a1::I v40::I a2::Ab K c)=
 cond (decide (D<v5)) (cond (decide (0<=D)&&decide (D<(E.length:Int))) (cond (gA (nth [] E D.toNat) 1 !=10) (cond (((v0++[[jA (nth [] E D.toNat) 0,jA (nth [] E D.toNat) 1,jA (nth [] E D.toNat) 2]]).length*24).ble 140737488355328) (some (0,(.vC kPt (v0++[[jA (nth [] E D.toNat) 0,jA (nth [] E D.toNat) 1,jA (nth [] E D.toNat) 2]]):: .vC kPt v1:: .vC kPt v2::I v3:: .vC kPt E::I v5::I (V (D+1))::I v7::I v8::I v9::I v10::I v11::I v12::I G::I J::I L:: .vC Aa M::I N::I O::I S::I v20::I v21::I v22::I T::I v24::I v25:: .vC Aa U::I v27::I v28::I X::I v30::I v31::I Y::I v33::I a0::I v35:: .vC Aa v36::I v37::I v38::I a1::I v40::I a2::Ab K c))) (none)) (some (0,(.vC kPt v0:: .vC kPt v1:: .vC kPt v2::I v3:: .vC kPt E::I v5::I (V (D+1))::I v7::I v8::I v9::I v10::I v11::I v12::I G::I J::I L:: .vC Aa M::I N::I O::I S::I v20::I v21::I v22::I T::I v24::I v25:: .vC Aa U::I v27::I v28::I X::I v30::I v31::I Y::I v33::I a0::I v35:: .vC Aa v36::I v37::I v38::I a1::I v40::I a2::Ab K c)))) (none)) (some (1,(.vC kPt v0:: .vC kPt v1:: .vC kPt v2::I v3::I v7::I v8::I v9::I v10::I v11::I v12::I G::I J::I L:: .vC Aa M::I N::I O::I S::I v20::I v21::I v22::I T::I v24::I v25:: .vC Aa U::I v27::I v28::I X::I v30::I v31::I Y::I v33::I a0::I v35:: .vC Aa v36::I v37::I v38::I a1::I v40::I a2::Ab K c))):=by kernel_rfl
theorem Zyl (B9 C4 E2 AT E7 E5 C8 E_ Fd Dp EY Fe E1:Fn) (a1:Lp) (v0 v1:Rw) (v2 v3 v4 v5 v6 v7 v8 v9 v10 v11:Int) (v12:Rw) (G J L M N O S v20 v21:Int) (v22:Rw) (T v24 v25 U v27 v28 X v30 v31:Int) (Y:Rw) (v33 a0 v35 v36 v37:Int) (K:Kf) (c:Cv):T0 B9 C4 E2 AT E7 E5 C8 E_ Fd Dp EY Fe E1 a1 (.vC kPt v0:: .vC kPt v1::I v2::I v3::I v4::I v5::I v6::I v7::I v8::I v9::I v10::I v11:: .vC Aa v12::I G::I J::I L::I M::I N::I O::I S::I v20::I v21:: .vC Aa v22::I T::I v24::I v25::I U::I v27::I v28::I X::I v30::I v31:: .vC Aa Y::I v33::I a0::I v35::I v36::I v37::Ab K c)=
 cond (decide (v2<120)) ((E2 [.vC kPt v1,I v2]).bind λa2=>
 (a1 (.vC kPt []:: .vC kPt v0:: .vC kPt v1::I v2:: .vC kPt (wA a2 0)::I (↑(wA a2 0).length:Int)::I 0::I v3::I v4::I v5::I v6::I v7::I v8::I v9::I v10::I v11:: .vC Aa v12::I G::I J::I L::I M::I N::I O::I S::I v20::I v21:: .vC Aa v22::I T::I v24::I v25::I U::I v27::I v28::I X::I v30::I v31:: .vC Aa Y::I v33::I a0::I v35::I v36::I v37::Ab K c)).bind λD=>
 cond (D.1.beq 1) ((C4 (.vC kPt (wA D.2 0)::cR 39 D.2)).bind λE=>
 cond (((wA D.2 1++[[jA E 4,jA E 5,jA E 6]]).length*24).ble 140737488355328) (some (0,(.vC kPt (wA D.2 1++[[jA E 4,jA E 5,jA E 6]]):: .vC kPt (wA D.2 2)::I (V (gA D.2 3+1))::jA D.2 4::jA D.2 5::jA D.2 6::jA D.2 7::jA D.2 8::jA D.2 9::jA D.2 10::jA D.2 11::jA D.2 12:: .vC Aa (wA D.2 13)::jA D.2 14::jA D.2 15::jA D.2 16::jA D.2 17::jA D.2 18::jA D.2 19::jA D.2 20::jA D.2 21::jA D.2 22:: .vC Aa (wA D.2 23)::jA D.2 24::jA D.2 25::jA D.2 26::jA D.2 27::jA D.2 28::jA D.2 29::jA D.2 30::jA D.2 31::jA D.2 32:: .vC Aa (wA D.2 33)::jA D.2 34::jA D.2 35::jA D.2 36::jA D.2 37::jA D.2 38::cR 9 E))) (none)) (none)) (some (1,[.vC kPt v0,I v3,I v4,I v5,I v6,I v7,I v8,I v9,I v10,I v11, .vC Aa v12,I G,I J,I L,I M,I N,I O,I S,I v20,I v21, .vC Aa v22,I T,I v24,I v25,I U,I v27,I v28,I X,I v30,I v31, .vC Aa Y,I v33,I a0,I v35,I v36,I v37])):=by kernel_rfl
theorem Zl8 (B9 C4 E2 AT E7 E5 C8 E_ Fd Dp EY Fe E1:Fn) (O M:Lp) (S T U V:Rw) (x4:Int):Qgw B9 C4 E2 AT E7 E5 C8 E_ Fd Dp EY Fe E1 O M [.vC Aa S, .vC Aa T, .vC Aa U, .vC Aa V,I x4]=
 (E1 []).bind λX=>
 cond (!bA X 0) (some [B false]) ((Fe [.vC Aa S, .vC Aa T, .vC Aa U, .vC Aa V]).bind λY=>
 cond (!bA Y 0) (some [B true]) ((EY [.vC Aa T, .vC Aa U]).bind λD=>
 (Dp [I x4,I 7]).bind λa0=>
 (Fd [.vC Aa S,jA a0 0,B true]).bind λa1=>
 (E_ [.vC Aa V]).bind λa2=>
 (C8 [jA D 0,jA D 1,jA D 2,jA D 3,jA D 4,jA D 5,jA D 6,jA D 7,jA D 8, .vC Aa (wA D 9),jA D 10,jA D 11,jA D 12,jA D 13,jA D 14,jA D 15,jA D 16,jA D 17,jA D 18, .vC Aa (wA D 19),jA D 20,jA D 21,jA D 22,jA D 23,jA D 24,jA D 25,jA D 26,jA D 27,jA D 28, .vC Aa (wA D 29),jA D 30,jA D 31,jA D 32,jA D 33,jA D 34, .vC Ak (wA a1 0),B true]).bind λN=>
 cond (gA N 0 !=0) (some [B false]) ((E5 (cR 1 N)).bind λL=>
 (E7 (cR 5 L)).bind λJ=>
 (AT [jA L 0,jA L 1,jA L 2, .vC Ag (wA L 3), .vC kPt (wA L 4),jA D 0,jA D 1,jA D 2,jA D 3,jA D 4,jA D 5,jA D 6,jA D 7,jA D 8, .vC Aa (wA D 9),jA D 10,jA D 11,jA D 12,jA D 13,jA D 14,jA D 15,jA D 16,jA D 17,jA D 18, .vC Aa (wA D 19),jA D 20,jA D 21,jA D 22,jA D 23,jA D 24,jA D 25,jA D 26,jA D 27,jA D 28, .vC Aa (wA D 29), .vC At (wA J 0),jA J 1,jA J 2,jA J 3,jA J 4,jA J 5,I 0]).bind λG=>
 (M (.vC kPt [[jA G 0,jA G 1,jA G 2],[jA G 0,jA G 1,jA G 2],[jA G 0,jA G 1,jA G 2]]:: .vC kPt (wA a2 0)::I 0::jA D 0::jA D 1::jA D 2::jA D 3::jA D 4::jA D 5::jA D 6::jA D 7::jA D 8:: .vC Aa (wA D 9)::jA D 10::jA D 11::jA D 12::jA D 13::jA D 14::jA D 15::jA D 16::jA D 17::jA D 18:: .vC Aa (wA D 19)::jA D 20::jA D 21::jA D 22::jA D 23::jA D 24::jA D 25::jA D 26::jA D 27::jA D 28:: .vC Aa (wA D 29)::jA D 30::jA D 31::jA D 32::jA D 33::jA D 34::cR 6 J)).bind λE=>
 cond (E.1.beq 1) ((B9 [jA E.2 1,jA E.2 2,jA E.2 3,jA E.2 4,jA E.2 5,jA E.2 6,jA E.2 7,jA E.2 8,jA E.2 9, .vC Aa (wA E.2 10),jA E.2 11,jA E.2 12,jA E.2 13,jA E.2 14,jA E.2 15,jA E.2 16,jA E.2 17,jA E.2 18,jA E.2 19, .vC Aa (wA E.2 20),jA E.2 21,jA E.2 22,jA E.2 23,jA E.2 24,jA E.2 25,jA E.2 26,jA E.2 27,jA E.2 28,jA E.2 29, .vC Aa (wA E.2 30), .vC kPt (wA E.2 0)]).bind λa3=>
 some [B (bA a3 0)]) (none)))):=by kernel_rfl
def Qb7:=Am (P0 GF Hi LG Dh LW LR Hb Me Lt H_ KU NJ Mp)
def Zez:=Am (T0 GF Hi LG Dh LW LR Hb Me Lt H_ KU NJ Mp Qb7)
def Q6z:=Qgw GF Hi LG Dh LW LR Hb Me Lt H_ KU NJ Mp Qb7 Zez
theorem Qtx:Aj PG (Qsp GF Hi LG Dh LW LR Hb Me Lt H_ KU NJ Mp):=Ap rfl ⟨Zec,Q96,Zwc,R5,Zo3,Znq,Zdx,Z25,Z0d,Qv6,Z87,Zo1,Zhl,trivial⟩
theorem Z5j:∀(args:List TV) (v:TV) (mem:Mem),(Ad Zba Qrs Q6z (TV×Mem) args ⟨[],[]⟩ λv m=>some (v,m))=some (v,mem)->PCallM PG 5 args ⟨[],[]⟩ v mem:=λargs v mem h=>Ycu (f:=5) (C:=Zeg GF Hi LG Dh LW LR Hb Me Lt H_ KU NJ Mp Qb7 Zez) (L:=64) (by kernel_rfl) (((FnOK.bare rfl rfl rfl).loop Qtx eqOk GA (by kernel_rfl) (by kernel_rfl)).loop Qtx eqOk GA (by kernel_rfl) (by kernel_rfl)) Qtx eqOk GA (by kernel_rfl) (by kernel_rfl) args v mem h
end Go.Bm
