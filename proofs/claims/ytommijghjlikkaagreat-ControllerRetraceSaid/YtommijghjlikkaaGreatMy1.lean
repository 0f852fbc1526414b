/- functions of the program and of the references, as models -/
import Derived.Test.YtommijghjlikkaaGreatMx3
set_option linter.unusedSimpArgs false
set_option linter.unusedVariables false
set_option maxRecDepth 100000
noncomputable section
open Go.IntKind (wrap)
namespace Go.Bm
open Go.Proofs
def Qon:Sk:=⟨[tf [sa Aa],tf [sa Aa],tf [sa Aa],tf [sa Aa]],[],[]⟩
def Zjn:=qa 14 Qon Qqn
def Qdx (E:Fn):Cfg:=cf [Z7w E]
def Qph (E:Fn):Fn:=An PG (Qdx E) 64 14 Qon Qqn
theorem Zyv (E:Fn) (G I J M:Rw):Qph E [.vC Aa G, .vC Aa I, .vC Aa J, .vC Aa M]=
 (E [.vC [Kd.sl Aa] [[.vC Aa G],[.vC Aa I],[.vC Aa J],[.vC Aa M]]]).bind λo1=>
 some [B (bA o1 0)]:=by kernel_rfl
def J6:=Qph Lh
theorem Z7x:Ai PG (Qdx Lh):=Ap rfl ⟨Zlf,trivial⟩
theorem Zm2:Am PG (Zjn J6):=rw1 (C:=Qdx Lh) Z7x
def Z7t:=qa 13 Qay Qqn
def Yw (E G:Fn):Cfg:=cp [Zd6 E,Qz6 G] [21,20]
def Yo (E G:Fn):Fn:=An PG (Yw E G) 64 13 Qay Qqn
theorem Zxj (E G:Fn):Yo E G []=
 (G [I 8,I 10,I 10,I 10,I (-16777216),I 16777216,I 0,I 0,I 0, .vC Aa [],I 8,I 10,I 10,I 10,I (-16777216),I 16777216,I 0,I 0,I 0, .vC Aa [],I 8,I 10,I 10,I 10,I (-16777216),I 16777216,I 0,I 0,I 0, .vC Aa [],I 9,I 3,I 100,I 1,I 0, .vC Aj [],B true]).bind λJ=>
 (G [I 8,I 10,I 10,I 10,I (-16777216),I 16777216,I 0,I 0,I 0, .vC Aa [],I 8,I 10,I 10,I 10,I (-16777216),I 16777216,I 0,I 0,I 0, .vC Aa [],I 8,I 10,I 10,I 10,I (-16777216),I 16777216,I 0,I 0,I 0, .vC Aa [],I 9,I 3,I 100,I 1,I 0, .vC Aj [[I 12,I 0,I 0,I 0,I 0,I 0,I 0,I 0,I 0,I 0,I 0,I 0,I 0,B false,I 0,B false,I 0,I 0,I 0,I 0,I 0,B false]],B true]).bind λM=>
 cond (gA J 0 !=0) (some [B false]) (cond (gA M 0 !=0) (some [B false]) ((E (.vC kPt []::cR 1 J)).bind λO=>
 cond (gA O 2==7) ((E (.vC kPt []::cR 1 M)).bind λN=>
 cond (gA N 2==2) ((E (.vC kPt [[I 0,I 4,I 0]]::cR 9 N)).bind λS=>
 some [B (gA S 2==3)]) (some [B false])) (some [B false]))):=by kernel_rfl
def JE:=Yo Gy F6
theorem Zlp:Ai PG (Yw Gy F6):=Ap rfl ⟨Q8g,Zb5,trivial⟩
theorem Zfj:Am PG (Z7t JE):=rw1 (C:=Yw Gy F6) Zlp
def Za2:Sk:=⟨[tf [sa Aa],tf [sa Aa],tf [sa Aa],tf [ci],tf [ci]],[],[]⟩
def Qdj (E G I J M N O S:Fn):Cfg:={cp [Zk5 E,Zd6 G,Qyi I,Qz6 J,Zp5 M,Zmr N,Zjn O,Z7t S] [40,21,20,41]with unroll:=[37]}
def Zci:Sk:=⟨[td,td,td,tf [ci],tf [ci]]++dd 6++[tf [sd 11 0],tf [se 103400 22]]++dd 41++[tf [ci],tf [ci]]++dd 136,[(11,31,cc 9++[sa Aa]++cc 9++[sa Aa]++cc 9++[sa Aa]++cc 5)],[(103400,74,Aj)]⟩
def Q4c:List (Ex×Sk):=[(Ex.exit 0,⟨[td,td,td,tf [ci],tf [ci]]++dd 6++[tf [sd 11 0],tf [se 103400 22]]++dd 179,[(11,31,cc 9++[sa Aa]++cc 9++[sa Aa]++cc 9++[sa Aa]++cc 5)],[(103400,74,Aj)]⟩)]
def HK (E G I J M N O S:Fn):Lp:=A5 PG (Qdj E G I J M N O S) 64 8 (A4 PG 11 8) Zci Q4c
def Q2y (E G I J M N O S:Fn) (T:Lp):Cfg:=(Qdj E G I J M N O S).loop 8 Zci Q4c T
def Q8w:Sk:=⟨[td,td,td,td,tf [ci]]++dd 6++[tf [sd 11 0],td,td,tf [sd 107200 0],td,tf [ci]]++dd 175,[(11,31,cc 9++[sa Aa]++cc 9++[sa Aa]++cc 9++[sa Aa]++cc 5),(107200,119,cS)],[]⟩
def Q3g:List (Ex×Sk):=[(Ex.exit 2,⟨[td,td,td,td,tf [ci]]++dd 6++[tf [sd 11 0],td,td,tf [sd 107200 0]]++dd 177,[(11,31,cc 9++[sa Aa]++cc 9++[sa Aa]++cc 9++[sa Aa]++cc 5),(107200,119,cS)],[]⟩)]
def Iw (E G I J M N O S:Fn) (T:Lp):Lp:=A5 PG (Q2y E G I J M N O S T) 64 17 (A4 PG 11 17) Q8w Q3g
def Qs5 (G I J M N O S T:Fn) (U E:Lp):Cfg:=(Q2y G I J M N O S T U).loop 17 Q8w Q3g E
def Q2x:Sk:=⟨[td,td,td,td,tf [ci]]++dd 6++[tf [sd 11 0],td,td,tf [sd 107200 0],td,td,tf [sd 17 0],tf [ci]]++dd 173,[(11,31,cc 9++[sa Aa]++cc 9++[sa Aa]++cc 9++[sa Aa]++cc 5),(17,46,[sa kPt,sa Aa]++cc 7),(107200,119,cS)],[]⟩
def Qvr:List (Ex×Sk):=[(Ex.exit 4,⟨[td,td,td,td,tf [ci]]++dd 6++[tf [sd 11 0],td,td,tf [sd 107200 0],td,td,tf [sd 17 0]]++dd 174,[(11,31,cc 9++[sa Aa]++cc 9++[sa Aa]++cc 9++[sa Aa]++cc 5),(17,46,[sa kPt,sa Aa]++cc 7),(107200,119,cS)],[]⟩)]
def Ok (G I J M N O S T:Fn) (U E:Lp):Lp:=A5 PG (Qs5 G I J M N O S T U E) 64 22 (A4 PG 11 22) Q2x Qvr
def Q3s (I J M N O S T U:Fn) (V E G:Lp):Cfg:=(Qs5 I J M N O S T U V E).loop 22 Q2x Qvr G
def Qz5:Sk:=⟨dd 11++[tf [sd 11 0],td,td,tf [sd 107200 0],td,td,tf [sd 17 0],td,tf [sd 19 0],tf [ci]]++dd 171,[(11,31,cc 9++[sa Aa]++cc 9++[sa Aa]++cc 9++[sa Aa]++cc 5),(17,46,[sa kPt,sa Aa]++cc 7),(19,46,[sa kPt,sa Aa]++cc 7),(107200,119,cS)],[]⟩
def Zcz:List (Ex×Sk):=[(Ex.ret,⟨dd 10++[tf [sb]]++dd 181,[],[]⟩),(Ex.exit 6,⟨dd 11++[tf [sd 11 0],td,td,tf [sd 107200 0],td,td,tf [sd 17 0],td,tf [sd 19 0]]++dd 172,[(11,31,cc 9++[sa Aa]++cc 9++[sa Aa]++cc 9++[sa Aa]++cc 5),(17,46,[sa kPt,sa Aa]++cc 7),(19,46,[sa kPt,sa Aa]++cc 7),(107200,119,cS)],[]⟩)]
def Va (I J M N O S T U:Fn) (V E G:Lp):Lp:=A5 PG (Q3s I J M N O S T U V E G) 64 29 (A4 PG 11 29) Qz5 Zcz
def Q3c (J M N O S T U V:Fn) (X E G I:Lp):Cfg:=(Q3s J M N O S T U V X E G).loop 29 Qz5 Zcz I
def Qc4 (J M N O S T U V:Fn) (X E G I:Lp):Fn:=An PG (Q3c J M N O S T U V X E G I) 64 11 Za2 Qqn
theorem Zmm (BG Bt BP BL Cx Cr Cz Cu:Fn) (v0:Rw) (v1 v2 v3 E v5 v6 v7 v8 v9 v10 v11 v12 G:Int) (J:Rw) (M N O S T v20 v21 v22 U:Int) (v24:Rw) (v25 X v27 v28 Y v30 v31 a0 v33:Int) (a1:Rw) (v35 v36 v37 v38 a2:Int):HK BG Bt BP BL Cx Cr Cz Cu [.vC Aj v0,I v1,I v2,I v3,I E,I v5,I v6,I v7,I v8,I v9,I v10,I v11,I v12,I G, .vC Aa J,I M,I N,I O,I S,I T,I v20,I v21,I v22,I U, .vC Aa v24,I v25,I X,I v27,I v28,I Y,I v30,I v31,I a0,I v33, .vC Aa a1,I v35,I v36,I v37,I v38,I a2]=
 cond (decide (E<v3)) (cond (decide (0<=E)&&decide (E<(v0.length:Int))) (cond (gA (nth [] v0 E.toNat) 0 !=1) (cond (decide (0<=E)&&decide (E<(v0.length:Int))) (some (0,[.vC Aj (v0.set E.toNat [jA (nth [] v0 E.toNat) 0,jA (nth [] v0 E.toNat) 1,jA (nth [] v0 E.toNat) 2,jA (nth [] v0 E.toNat) 3,jA (nth [] v0 E.toNat) 4,jA (nth [] v0 E.toNat) 5,jA (nth [] v0 E.toNat) 6,jA (nth [] v0 E.toNat) 7,jA (nth [] v0 E.toNat) 8,jA (nth [] v0 E.toNat) 9,jA (nth [] v0 E.toNat) 10,jA (nth [] v0 E.toNat) 11,jA (nth [] v0 E.toNat) 12,B (bA (nth [] v0 E.toNat) 13),I 2000000,B (bA (nth [] v0 E.toNat) 15),jA (nth [] v0 E.toNat) 16,jA (nth [] v0 E.toNat) 17,jA (nth [] v0 E.toNat) 18,jA (nth [] v0 E.toNat) 19,jA (nth [] v0 E.toNat) 20,B (bA (nth [] v0 E.toNat) 21)]),I v1,I v2,I v3,I (V (E+1)),I v5,I v6,I v7,I v8,I v9,I v10,I v11,I v12,I G, .vC Aa J,I M,I N,I O,I S,I T,I v20,I v21,I v22,I U, .vC Aa v24,I v25,I X,I v27,I v28,I Y,I v30,I v31,I a0,I v33, .vC Aa a1,I v35,I v36,I v37,I v38,I a2])) (none)) (some (0,[.vC Aj v0,I v1,I v2,I v3,I (V (E+1)),I v5,I v6,I v7,I v8,I v9,I v10,I v11,I v12,I G, .vC Aa J,I M,I N,I O,I S,I T,I v20,I v21,I v22,I U, .vC Aa v24,I v25,I X,I v27,I v28,I Y,I v30,I v31,I a0,I v33, .vC Aa a1,I v35,I v36,I v37,I v38,I a2]))) (none)) (some (1,[.vC Aj v0,I v1,I v2,I v5,I v6,I v7,I v8,I v9,I v10,I v11,I v12,I G, .vC Aa J,I M,I N,I O,I S,I T,I v20,I v21,I v22,I U, .vC Aa v24,I v25,I X,I v27,I v28,I Y,I v30,I v31,I a0,I v33, .vC Aa a1,I v35,I v36,I v37,I v38,I a2])):=by kernel_rfl
theorem Z9n (BG Bt BP BL Cx Cr Cz Cu:Fn) (N8:Lp) (v0 v1 v2 v3 v4 v5 v6 v7 v8 v9 v10:Int) (v11:Rw) (v12 E G J M N O S v20:Int) (v21:Rw) (v22 T v24 v25 U v27 v28 X v30:Int) (v31:Rw) (Y v33 a0 v35 v36:Int) (K:Kf) (c:Cv):Iw BG Bt BP BL Cx Cr Cz Cu N8 (I v0::I v1::I v2::I v3::I v4::I v5::I v6::I v7::I v8::I v9::I v10:: .vC Aa v11::I v12::I E::I G::I J::I M::I N::I O::I S::I v20:: .vC Aa v21::I v22::I T::I v24::I v25::I U::I v27::I v28::I X::I v30:: .vC Aa v31::I Y::I v33::I a0::I v35::I v36::Ab K c)=
 cond (decide (v1>0)) ((Bt (.vC kPt []::Ab K c)).bind λa1=>
 some (0,(I v0::I (V (v1-1))::I v2::I v3::I v4::I v5::I v6::I v7::I v8::I v9::I v10:: .vC Aa v11::I v12::I E::I G::I J::I M::I N::I O::I S::I v20:: .vC Aa v21::I v22::I T::I v24::I v25::I U::I v27::I v28::I X::I v30:: .vC Aa v31::I Y::I v33::I a0::I v35::I v36::cR 9 a1))) (some (1,(I v0::I v2::I v3::I v4::I v5::I v6::I v7::I v8::I v9::I v10:: .vC Aa v11::I v12::I E::I G::I J::I M::I N::I O::I S::I v20:: .vC Aa v21::I v22::I T::I v24::I v25::I U::I v27::I v28::I X::I v30:: .vC Aa v31::I Y::I v33::I a0::I v35::I v36::Ab K c))):=by kernel_rfl
theorem Zs2 (BG Bt BP BL Cx Cr Cz Cu:Fn) (N8 a6:Lp) (v0 v1 v2 v3 v4 v5 v6 v7 v8 v9 v10:Int) (v11:Rw) (v12 G J M N O S T v20:Int) (v21:Rw) (v22 U v24 v25 X v27 v28 Y v30:Int) (v31:Rw) (a0 v33 a1 v35 v36:Int) (v37 v38:Rw) (a2 v40 a3 v42 a4 v44 a5:Int) (K:Kf) (c:Cv):Ok BG Bt BP BL Cx Cr Cz Cu N8 a6 (I v0::I v1::I v2::I v3::I v4::I v5::I v6::I v7::I v8::I v9::I v10:: .vC Aa v11::I v12::I G::I J::I M::I N::I O::I S::I T::I v20:: .vC Aa v21::I v22::I U::I v24::I v25::I X::I v27::I v28::I Y::I v30:: .vC Aa v31::I a0::I v33::I a1::I v35::I v36:: .vC kPt v37:: .vC Aa v38::I a2::I v40::I a3::I v42::I a4::I v44::I a5::Ab K c)=
 cond (decide (v1<200)) ((Bt (.vC kPt []::Ab K c)).bind λE=>
 some (0,(I v0::I (V (v1+1))::I v2::I v3::I v4::I v5::I v6::I v7::I v8::I v9::I v10:: .vC Aa v11::I v12::I G::I J::I M::I N::I O::I S::I T::I v20:: .vC Aa v21::I v22::I U::I v24::I v25::I X::I v27::I v28::I Y::I v30:: .vC Aa v31::I a0::I v33::I a1::I v35::I v36:: .vC kPt (wA E 0):: .vC Aa (wA E 1)::jA E 2::jA E 3::jA E 4::jA E 5::jA E 6::jA E 7::jA E 8::cR 9 E))) (some (1,(I v0::I v2::I v3::I v4::I v5::I v6::I v7::I v8::I v9::I v10:: .vC Aa v11::I v12::I G::I J::I M::I N::I O::I S::I T::I v20:: .vC Aa v21::I v22::I U::I v24::I v25::I X::I v27::I v28::I Y::I v30:: .vC Aa v31::I a0::I v33::I a1::I v35::I v36:: .vC kPt v37:: .vC Aa v38::I a2::I v40::I a3::I v42::I a4::I v44::I a5::Ab K c))):=by kernel_rfl
theorem Zhx (BG Bt BP BL Cx Cr Cz Cu:Fn) (N8 b0 b1:Lp) (v0 v1 v2 v3 v4 v5 v6 v7 v8 v9:Int) (v10:Rw) (v11 v12 N O S T U X Y:Int) (v20:Rw) (v21 v22 a0 v24 v25 a1 v27 v28 a2:Int) (v30:Rw) (v31 a3 v33 a4 v35:Int) (v36 v37:Rw) (v38 J v40 a5 v42 a6 v44:Int) (a7 v46:Rw) (M v48 v49 a8 v51 a9 v53:Int) (K:Kf) (c:Cv):Va BG Bt BP BL Cx Cr Cz Cu N8 b0 b1 (I v0::I v1::I v2::I v3::I v4::I v5::I v6::I v7::I v8::I v9:: .vC Aa v10::I v11::I v12::I N::I O::I S::I T::I U::I X::I Y:: .vC Aa v20::I v21::I v22::I a0::I v24::I v25::I a1::I v27::I v28::I a2:: .vC Aa v30::I v31::I a3::I v33::I a4::I v35:: .vC kPt v36:: .vC Aa v37::I v38::I J::I v40::I a5::I v42::I a6::I v44:: .vC kPt a7:: .vC Aa v46::I M::I v48::I v49::I a8::I v51::I a9::I v53::Ab K c)=
 cond (decide (v0<900)) (cond (M !=1) (cond (M !=4) (cond (M !=5) (some (1,[B false])) (cond (decide (v48>J)) (some (1,[B false])) ((Bt (.vC kPt []::Ab K c)).bind λE=>
 some (0,(I (V (v0+1))::I v1::I v2::I v3::I v4::I v5::I v6::I v7::I v8::I v9:: .vC Aa v10::I v11::I v12::I N::I O::I S::I T::I U::I X::I Y:: .vC Aa v20::I v21::I v22::I a0::I v24::I v25::I a1::I v27::I v28::I a2:: .vC Aa v30::I v31::I a3::I v33::I a4::I v35:: .vC kPt v36:: .vC Aa v37::I v38::I J::I v40::I a5::I v42::I a6::I v44:: .vC kPt (wA E 0):: .vC Aa (wA E 1)::jA E 2::jA E 3::jA E 4::jA E 5::jA E 6::jA E 7::jA E 8::cR 9 E))))) (cond (decide (v48>J)) (some (1,[B false])) ((Bt (.vC kPt []::Ab K c)).bind λG=>
 some (0,(I (V (v0+1))::I v1::I v2::I v3::I v4::I v5::I v6::I v7::I v8::I v9:: .vC Aa v10::I v11::I v12::I N::I O::I S::I T::I U::I X::I Y:: .vC Aa v20::I v21::I v22::I a0::I v24::I v25::I a1::I v27::I v28::I a2:: .vC Aa v30::I v31::I a3::I v33::I a4::I v35:: .vC kPt v36:: .vC Aa v37::I v38::I J::I v40::I a5::I v42::I a6::I v44:: .vC kPt (wA G 0):: .vC Aa (wA G 1)::jA G 2::jA G 3::jA G 4::jA G 5::jA G 6::jA G 7::jA G 8::cR 9 G))))) (some (2,(I v1::I v2::I v3::I v4::I v5::I v6::I v7::I v8::I v9:: .vC Aa v10::I v11::I v12::I N::I O::I S::I T::I U::I X::I Y:: .vC Aa v20::I v21::I v22::I a0::I v24::I v25::I a1::I v27::I v28::I a2:: .vC Aa v30::I v31::I a3::I v33::I a4::I v35:: .vC kPt v36:: .vC Aa v37::I v38::I J::I v40::I a5::I v42::I a6::I v44:: .vC kPt a7:: .vC Aa v46::I M::I v48::I v49::I a8::I v51::I a9::I v53::Ab K c)))) (some (2,(I v1::I v2::I v3::I v4::I v5::I v6::I v7::I v8::I v9:: .vC Aa v10::I v11::I v12::I N::I O::I S::I T::I U::I X::I Y:: .vC Aa v20::I v21::I v22::I a0::I v24::I v25::I a1::I v27::I v28::I a2:: .vC Aa v30::I v31::I a3::I v33::I a4::I v35:: .vC kPt v36:: .vC Aa v37::I v38::I J::I v40::I a5::I v42::I a6::I v44:: .vC kPt a7:: .vC Aa v46::I M::I v48::I v49::I a8::I v51::I a9::I v53::Ab K c))):=by kernel_rfl
abbrev Ur (E:Nat×List AC) (G:Fn):Option (List AC):=
 cond (V (gA E.2 50-gA E.2 41) !=0) (cond (V (gA E.2 50-gA E.2 41) !=gA E.2 26) (cond (V (gA E.2 50-gA E.2 41) !=V (0-gA E.2 26)) (some [B false]) (cond (gA E.2 47==gA E.2 38) ((G (cR 53 E.2)).bind λI=>
 some [B (bA I 2)]) (some [B false]))) (cond (gA E.2 47==gA E.2 38) ((G (cR 53 E.2)).bind λJ=>
 some [B (bA J 2)]) (some [B false]))) (cond (gA E.2 47==gA E.2 38) ((G (cR 53 E.2)).bind λM=>
 some [B (bA M 2)]) (some [B false]))
attribute [go_sem] Ur
abbrev V1 (E:Nat×List AC) (G:Fn):Option (List AC):=
 cond (V (gA E.2 49-gA E.2 40) !=0) (cond (V (gA E.2 49-gA E.2 40) !=gA E.2 16) (cond (V (gA E.2 49-gA E.2 40) !=V (0-gA E.2 16)) (some [B false]) (Ur E G)) (Ur E G)) (Ur E G)
attribute [go_sem] V1
theorem Zwm (BG Bt BP BL Cx Cr Cz Cu:Fn) (N8 T U X:Lp) (x0 x1 x2:Rw) (x3 x4:Int):Qc4 BG Bt BP BL Cx Cr Cz Cu N8 T U X [.vC Aa x0, .vC Aa x1, .vC Aa x2,I x3,I x4]=
 (Cu []).bind λa1=>
 cond (!bA a1 0) (some [B false]) ((Cz [.vC Aa x0, .vC Aa x1, .vC Aa x2, .vC Aa []]).bind λa2=>
 cond (!bA a2 0) (some [B true]) ((Cr [.vC Aa x1, .vC Aa x2]).bind λM=>
 (Cx [.vC Aa x0,I 4]).bind λY=>
 (N8 [.vC Aj (wA Y 0),I x3,I x4,I (↑(wA Y 0).length:Int),I 0,jA M 0,jA M 1,jA M 2,jA M 3,jA M 4,jA M 5,jA M 6,jA M 7,jA M 8, .vC Aa (wA M 9),jA M 10,jA M 11,jA M 12,jA M 13,jA M 14,jA M 15,jA M 16,jA M 17,jA M 18, .vC Aa (wA M 19),jA M 20,jA M 21,jA M 22,jA M 23,jA M 24,jA M 25,jA M 26,jA M 27,jA M 28, .vC Aa (wA M 29),I (V (gA M 30+50)),I (V (gA M 31+10)),I (V (gA M 32+2000)),jA M 33,jA M 34]).bind λE=>
 cond (E.1.beq 1) ((BL [jA E.2 3,jA E.2 4,jA E.2 5,jA E.2 6,jA E.2 7,jA E.2 8,jA E.2 9,jA E.2 10,jA E.2 11, .vC Aa (wA E.2 12),jA E.2 13,jA E.2 14,jA E.2 15,jA E.2 16,jA E.2 17,jA E.2 18,jA E.2 19,jA E.2 20,jA E.2 21, .vC Aa (wA E.2 22),jA E.2 23,jA E.2 24,jA E.2 25,jA E.2 26,jA E.2 27,jA E.2 28,jA E.2 29,jA E.2 30,jA E.2 31, .vC Aa (wA E.2 32),jA E.2 33,jA E.2 34,jA E.2 35,jA E.2 36,jA E.2 37, .vC Aj (wA E.2 0),B true]).bind λa0=>
 cond (gA a0 0 !=0) (some [B false]) ((BP [jA E.2 1,I 60]).bind λa3=>
 (T (jA E.2 2::jA a3 0::jA E.2 3::jA E.2 4::jA E.2 5::jA E.2 6::jA E.2 7::jA E.2 8::jA E.2 9::jA E.2 10::jA E.2 11:: .vC Aa (wA E.2 12)::jA E.2 13::jA E.2 14::jA E.2 15::jA E.2 16::jA E.2 17::jA E.2 18::jA E.2 19::jA E.2 20::jA E.2 21:: .vC Aa (wA E.2 22)::jA E.2 23::jA E.2 24::jA E.2 25::jA E.2 26::jA E.2 27::jA E.2 28::jA E.2 29::jA E.2 30::jA E.2 31:: .vC Aa (wA E.2 32)::jA E.2 33::jA E.2 34::jA E.2 35::jA E.2 36::jA E.2 37::cR 1 a0)).bind λJ=>
 cond (J.1.beq 1) ((Bt (.vC kPt [[I 0,I 3,I 0]]::cR 36 J.2)).bind λS=>
 (U (jA J.2 0::I 0::jA J.2 1::jA J.2 2::jA J.2 3::jA J.2 4::jA J.2 5::jA J.2 6::jA J.2 7::jA J.2 8::jA J.2 9:: .vC Aa (wA J.2 10)::jA J.2 11::jA J.2 12::jA J.2 13::jA J.2 14::jA J.2 15::jA J.2 16::jA J.2 17::jA J.2 18::jA J.2 19:: .vC Aa (wA J.2 20)::jA J.2 21::jA J.2 22::jA J.2 23::jA J.2 24::jA J.2 25::jA J.2 26::jA J.2 27::jA J.2 28::jA J.2 29:: .vC Aa (wA J.2 30)::jA J.2 31::jA J.2 32::jA J.2 33::jA J.2 34::jA J.2 35:: .vC kPt (wA S 0):: .vC Aa (wA S 1)::jA S 2::jA S 3::jA S 4::jA S 5::jA S 6::jA S 7::jA S 8::cR 9 S)).bind λG=>
 cond (G.1.beq 1) ((BP [jA G.2 0,I 200]).bind λa4=>
 (Bt (.vC kPt [[I 0,I 7,I (V (1+gA a4 0))]]::cR 45 G.2)).bind λO=>
 cond (gA O 2 !=4) (some [B (gA O 4==gA G.2 40&&(gA O 5==gA G.2 41&&(gA O 6==gA G.2 42&&true)))]) ((X (I 0::jA G.2 1::jA G.2 2::jA G.2 3::jA G.2 4::jA G.2 5::jA G.2 6::jA G.2 7::jA G.2 8::jA G.2 9:: .vC Aa (wA G.2 10)::jA G.2 11::jA G.2 12::jA G.2 13::jA G.2 14::jA G.2 15::jA G.2 16::jA G.2 17::jA G.2 18::jA G.2 19:: .vC Aa (wA G.2 20)::jA G.2 21::jA G.2 22::jA G.2 23::jA G.2 24::jA G.2 25::jA G.2 26::jA G.2 27::jA G.2 28::jA G.2 29:: .vC Aa (wA G.2 30)::jA G.2 31::jA G.2 32::jA G.2 33::jA G.2 34::jA G.2 35:: .vC kPt (wA G.2 36):: .vC Aa (wA G.2 37)::jA G.2 38::jA G.2 39::jA G.2 40::jA G.2 41::jA G.2 42::jA G.2 43::jA G.2 44:: .vC kPt (wA O 0):: .vC Aa (wA O 1)::jA O 2::jA O 3::jA O 4::jA O 5::jA O 6::jA O 7::jA O 8::cR 9 O)).bind λN=>
 cond (N.1.beq 1) (some [B (bA N.2 0)]) (cond (N.1.beq 2) (cond (gA N.2 46 !=1) (some [B (decide (gA N.2 47<=gA N.2 38))]) (cond (V (gA N.2 48-gA N.2 39) !=0) (cond (V (gA N.2 48-gA N.2 39) !=gA N.2 6) (cond (V (gA N.2 48-gA N.2 39) !=V (0-gA N.2 6)) (some [B false]) (V1 N BG)) (V1 N BG)) (V1 N BG))) (none)))) (none)) (none))) (none))):=by kernel_rfl
def RT:=Ak (HK Jy Gy Gz F6 Iy IM J6 JE)
def Vw:=Ak (Iw Jy Gy Gz F6 Iy IM J6 JE RT)
def Qqg:=Ak (Ok Jy Gy Gz F6 Iy IM J6 JE RT Vw)
def Zbo:=Ak (Va Jy Gy Gz F6 Iy IM J6 JE RT Vw Qqg)
def Qw8:=Qc4 Jy Gy Gz F6 Iy IM J6 JE RT Vw Qqg Zbo
theorem Ri:Ai PG (Qdj Jy Gy Gz F6 Iy IM J6 JE):=Ap rfl ⟨Z7z,Q8g,Qu2,Zb5,Z7r,Z64,Zm2,Zfj,trivial⟩
theorem Z42:∀(args:List TV) (v:TV) (mem:Mem),(Ad Za2 Qqn Qw8 (TV×Mem) args ⟨[],[]⟩ λv m=>some (v,m))=some (v,mem)->PCallM PG 11 args ⟨[],[]⟩ v mem:=λargs v mem h=>Yax (f:=11) (C:=Q3c Jy Gy Gz F6 Iy IM J6 JE RT Vw Qqg Zbo) (L:=64) (by kernel_rfl) (((((FnOK.bare rfl rfl rfl).loop Ri eqOk FI (by kernel_rfl) (by kernel_rfl)).loop Ri eqOk FI (by kernel_rfl) (by kernel_rfl)).loop Ri eqOk FI (by kernel_rfl) (by kernel_rfl)).loop Ri eqOk FI (by kernel_rfl) (by kernel_rfl)) Ri eqOk FI (by kernel_rfl) (by kernel_rfl) args v mem h
end Go.Bm
