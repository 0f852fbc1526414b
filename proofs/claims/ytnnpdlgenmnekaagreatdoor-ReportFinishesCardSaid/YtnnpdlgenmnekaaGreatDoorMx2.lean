/- functions of the program and of the references, as models -/
import Derived.Test.YtnnpdlgenmnekaaGreatDoorMx1
set_option linter.unusedSimpArgs false
set_option linter.unusedVariables false
set_option maxRecDepth 100000
noncomputable section
open Go.IntKind (wrap)
namespace Go.Bm
open Go.Proofs
def Qoi:Sk:=⟨[tf [sd 20000 0],tf [sa kPt]],[(20000,179,cS)],[]⟩
def YL:Sk:=⟨[TS.v true ([sa kPt,sa Aa]++cc 7)],[(20000,179,cS)],[]⟩
def Yai:=qa 55 Qoi YL
def Qd4 (D G I L M N O T U V X Y:Fn):Cfg:=cr [Zun D,Zmz G,Zom I,Zvc L,Zvr M,Zon N,Zov O,Zti T,P6 U,Z81 V,Zuz X,Zol Y] [110,109,108,107,106,105,104,102,100,99] [102,100]
def Q1d:Sk:=⟨[tf [sd 20000 0],td,td,td,tf [sd 4 0]]++dd 14++[tf [sa kPt],tf [ci],tf [ci]]++dd 93,[(4,61,[sa kPt,sa Aa]++cc 7),(20000,179,cS)],[]⟩
def Q9u:List (Ex×Sk):=[(Ex.exit 0,⟨[tf [sd 20000 0],td,td,td,tf [sd 4 0]]++dd 110,[(4,61,[sa kPt,sa Aa]++cc 7),(20000,179,cS)],[]⟩)]
def Qpx (D G I L M N O T U V X Y:Fn):Lp:=A1 PG (Qd4 D G I L M N O T U V X Y) 64 3 (A2 PG 55 3) Q1d Q9u
def Qx5 (D G I L M N O T U V X Y:Fn) (N3:Lp):Cfg:=(Qd4 D G I L M N O T U V X Y).loop 3 Q1d Q9u N3
def Q56:Sk:=⟨[tf [sd 20000 0],td,td,td,tf [sd 4 0],td,td,tf [ci],tf [sd 8 0]]++dd 81++[tf [CS.bsl 90 5],tf [ci],tf [ci]]++dd 22,[(4,61,[sa kPt,sa Aa]++cc 7),(8,61,[sa kPt,sa Aa]++cc 7),(90,186,[CS.clo 104 [(20000,0)] [],CS.clo 105 [(20000,0)] [],CS.clo 106 [(20000,0)] [],CS.clo 107 [(20000,0)] [],CS.clo 108 [(20000,0)] []]),(20000,179,cS)],[]⟩
def Q5e:List (Ex×Sk):=[(Ex.exit 2,⟨[tf [sd 20000 0],td,td,td,tf [sd 4 0],td,td,tf [ci],tf [sd 8 0]]++dd 106,[(4,61,[sa kPt,sa Aa]++cc 7),(8,61,[sa kPt,sa Aa]++cc 7),(20000,179,cS)],[]⟩)]
def Ka (D G I L M N O T U V X Y:Fn) (N3:Lp):Lp:=A1 PG (Qx5 D G I L M N O T U V X Y N3) 64 16 (A2 PG 55 16) Q56 Q5e
def Qwc (G I L M N O T U V X Y Ek:Fn) (N3 D:Lp):Cfg:=(Qx5 G I L M N O T U V X Y Ek N3).loop 16 Q56 Q5e D
def Qk7 (G I L M N O T U V X Y Ek:Fn) (N3 D:Lp):Fn:=Ao PG (Qwc G I L M N O T U V X Y Ek N3 D) 64 55 Qoi YL
theorem Zoy (CB CT En Ew Es El Et C3 Bh Dt Ds Ek:Fn) (G:Rw) (L D:Int) (M N:Rw) (O T U X Y v10 v11:Int) (K:Kf) (c:Cv):Qpx CB CT En Ew Es El Et C3 Bh Dt Ds Ek (.vC kPt G::I L::I D:: .vC kPt M:: .vC Aa N::I O::I T::I U::I X::I Y::I v10::I v11::Ae K c)=
 cond (decide (D<L)) (cond (decide (0<=D)&&decide (D<(G.length:Int))) ((Ek (jA (nth [] G D.toNat) 0::jA (nth [] G D.toNat) 1::jA (nth [] G D.toNat) 2::Ae K c)).bind λa0=>
 some (0,(.vC kPt G::I L::I (V (D+1)):: .vC kPt M:: .vC Aa N::I O::I T::I U::I X::I Y::I v10::I v11::cR 0 a0))) (none)) (some (1,(.vC kPt M:: .vC Aa N::I O::I T::I U::I X::I Y::I v10::I v11::Ae K c))):=by kernel_rfl
abbrev Oe (v0:Int) (v3 v4:Rw) (v5 v6 v7 v8 v9 v10 v11:Int) (v12 G:Rw) (L M N O T v20 v1 v2 Y:Int) (U:Bool) (X:AC) (D:List AC):Option (Nat×List AC):=
 cond (U) (some (1,(I v0:: .vC kPt v3:: .vC Aa v4::I v5::I v6::I v7::I v8::I v9::I v10::I v11:: .vC kPt v12:: .vC Aa G::X::I L::I M::I N::I O::I T::I v20::D))) (some (0,(I v0::I v1::I (V (v2+1)):: .vC kPt v3:: .vC Aa v4::I v5::I v6::I v7::I v8::I v9::I v10::I v11:: .vC kPt v12:: .vC Aa G::I Y::I L::I M::I N::I O::I T::I v20::D)))
theorem Zzn (CB CT En Ew Es El Et C3 Bh Dt Ds Ek:Fn) (N3:Lp) (V X U:Int) (Y v4:Rw) (v5 v6 v7 v8 v9 v10 v11:Int) (v12 D:Rw) (G L M N O T v20:Int) (K:Kf) (c:Cv):Ka CB CT En Ew Es El Et C3 Bh Dt Ds Ek N3 (I V::I X::I U:: .vC kPt Y:: .vC Aa v4::I v5::I v6::I v7::I v8::I v9::I v10::I v11:: .vC kPt v12:: .vC Aa D::I G::I L::I M::I N::I O::I T::I v20::Ae K c)=
 cond (decide (U<X)) (cond (decide (U=(↑0:Int))) ((Et (Ae K c)).bind λa0=>
 Oe V Y v4 v5 v6 v7 v8 v9 v10 v11 v12 D L M N O T v20 X U G (bA a0 1) (jA a0 0) (cR 2 a0)) (cond (decide (U=(↑(0+1):Int))) ((El (Ae K c)).bind λa1=>
 Oe V Y v4 v5 v6 v7 v8 v9 v10 v11 v12 D L M N O T v20 X U G (bA a1 1) (jA a1 0) (cR 2 a1)) (cond (decide (U=(↑(0+1+1):Int))) ((Es (Ae K c)).bind λa2=>
 Oe V Y v4 v5 v6 v7 v8 v9 v10 v11 v12 D L M N O T v20 X U G (bA a2 1) (jA a2 0) (cR 2 a2)) (cond (decide (U=(↑(0+1+1+1):Int))) ((Ew (Ae K c)).bind λa3=>
 Oe V Y v4 v5 v6 v7 v8 v9 v10 v11 v12 D L M N O T v20 X U G (bA a3 1) (jA a3 0) (cR 2 a3)) (cond (decide (U=(↑(0+1+1+1+1):Int))) ((En (Ae K c)).bind λa4=>
 Oe V Y v4 v5 v6 v7 v8 v9 v10 v11 v12 D L M N O T v20 X U G (bA a4 1) (jA a4 0) (cR 2 a4)) (none)))))) (some (1,(I V:: .vC kPt Y:: .vC Aa v4::I v5::I v6::I v7::I v8::I v9::I v10::I v11:: .vC kPt v12:: .vC Aa D::I G::I L::I M::I N::I O::I T::I v20::Ae K c))):=by kernel_rfl
abbrev IG (U:Lp) (M:Nat×List AC) (X V:Fn) (N:AC) (O:List AC):Option (List AC):=
 (U (N::I (↑5:Int)::I 0:: .vC kPt (wA M.2 0):: .vC Aa (wA M.2 1)::jA M.2 2::jA M.2 3::jA M.2 4::jA M.2 5::jA M.2 6::jA M.2 7::jA M.2 8:: .vC kPt []:: .vC Aa []::I 0::I 0::I 0::I 0::I 0::I 0::I 0::O)).bind λD=>
 cond (D.1.beq 1) (cond (gA D.2 12==0) ((X (cR 19 D.2)).bind λT=>
 (V (jA D.2 0::(cR 1 T++[.vC kPt (wA D.2 10), .vC Aa (wA D.2 11),jA T 0,jA D.2 13,jA D.2 14,jA D.2 15,jA D.2 16,jA D.2 17,jA D.2 18]))).bind λG=>
 some (.vC kPt (wA G 90):: .vC Aa (wA G 91)::jA G 92::jA G 93::jA G 94::jA G 95::jA G 96::jA G 97::jA G 98::cR 0 G)) ((V (jA D.2 0::(cR 19 D.2++[.vC kPt (wA D.2 10), .vC Aa (wA D.2 11),jA D.2 12,jA D.2 13,jA D.2 14,jA D.2 15,jA D.2 16,jA D.2 17,jA D.2 18]))).bind λL=>
 some (.vC kPt (wA L 90):: .vC Aa (wA L 91)::jA L 92::jA L 93::jA L 94::jA L 95::jA L 96::jA L 97::jA L 98::cR 0 L))) (none)
abbrev Qnw (Ds:Fn) (D:Nat×List AC) (Dt U V:Fn) (I:Lp) (X Y:Fn):Option (List AC):=
 (Ds (EV (cR 9 D.2) [(58,B true),(86,jA D.2 76)])).bind λL=>
 cond (!bA L 0) ((Dt [jA D.2 73,jA D.2 74,jA D.2 75,jA D.2 76,jA D.2 42]).bind λG=>
 (U (EV (cR 9 D.2) [(58,B true),(64,jA G 0),(65,jA G 1),(66,jA G 2),(67,jA G 3),(86,jA D.2 76)])).bind λM=>
 (V [jA D.2 59,jA D.2 60,jA D.2 61,jA D.2 62,jA D.2 63,jA D.2 64]).bind λN=>
 IG I D X Y (jA M 0) (EV (cR 9 D.2) [(58,B true),(64,jA G 0),(65,jA G 1),(66,jA G 2),(67,jA G 3),(86,jA D.2 76),(88,B (bA N 0))])) ((U (EV (cR 9 D.2) [(58,B true),(86,jA D.2 76)])).bind λO=>
 (V [jA D.2 59,jA D.2 60,jA D.2 61,jA D.2 62,jA D.2 63,jA D.2 64]).bind λT=>
 IG I D X Y (jA O 0) (EV (cR 9 D.2) [(58,B true),(86,jA D.2 76),(88,B (bA T 0))]))
theorem Zpr (M N En Ew Es El Et O T U V Ek:Fn) (N3 L:Lp) (X:Rw) (K:Kf) (c:Cv):Qk7 M N En Ew Es El Et O T U V Ek N3 L (.vC kPt X::Ae K c)=
 (N3 (.vC kPt X::I (X.length:Int)::I 0:: .vC kPt []:: .vC Aa []::I 0::I 0::I 0::I 0::I 0::I 0::I 0::Ae K {c with aJ:=false,aL:=false})).bind λD=>
 cond (D.1.beq 1) (cond (bA D.2 86) (Qnw V D U T O L N M) (cond (gA D.2 70 !=0) (Qnw V D U T O L N M) ((V (EV (cR 9 D.2) [(86,jA D.2 76)])).bind λY=>
 cond (!bA Y 0) ((U [jA D.2 73,jA D.2 74,jA D.2 75,jA D.2 76,jA D.2 42]).bind λG=>
 (T (EV (cR 9 D.2) [(64,jA G 0),(65,jA G 1),(66,jA G 2),(67,jA G 3),(86,jA D.2 76)])).bind λa0=>
 (O [jA D.2 59,jA D.2 60,jA D.2 61,jA D.2 62,jA D.2 63,jA D.2 64]).bind λa1=>
 IG L D N M (jA a0 0) (EV (cR 9 D.2) [(64,jA G 0),(65,jA G 1),(66,jA G 2),(67,jA G 3),(86,jA D.2 76),(88,B (bA a1 0))])) ((T (EV (cR 9 D.2) [(86,jA D.2 76)])).bind λa2=>
 (O [jA D.2 59,jA D.2 60,jA D.2 61,jA D.2 62,jA D.2 63,jA D.2 64]).bind λa3=>
 IG L D N M (jA a2 0) (EV (cR 9 D.2) [(86,jA D.2 76),(88,B (bA a3 0))]))))) (none):=by kernel_rfl
def Y6:=Am (Qpx KS JS K3 LI LE J5 Ln Ll DQ K_ Ml NR)
def Q5f:=Am (Ka KS JS K3 LI LE J5 Ln Ll DQ K_ Ml NR Y6)
def JY:=Qk7 KS JS K3 LI LE J5 Ln Ll DQ K_ Ml NR Y6 Q5f
theorem Yu:Ak PG (Qd4 KS JS K3 LI LE J5 Ln Ll DQ K_ Ml NR):=Lu (rs:=[102,100]) rfl ⟨Zew,Zpo,Z0n,Z1z,Zek,Zq2,Zmp,Zm9,Ss,Zdo,Zfl,Zg2,trivial⟩ rfl (DB rfl (DB rfl (DB rfl (DB rfl (DB rfl (DB rfl (DB rfl (DB rfl (Jo (DB rfl (Jo (DB rfl LU))))))))))))
theorem Z0o:An PG (Yai JY):=rw2 (C:=Qwc KS JS K3 LI LE J5 Ln Ll DQ K_ Ml NR Y6 Q5f) (fl (fl fb Yu) Yu) Yu
def Qjo:Sk:=⟨[tf [sa kPt],tf [ci]],[],[]⟩
def Zqd:=qa 56 Qjo ZF
def C_event_At_0:Cfg:={cf []with prom:=λb=>cond (Nat.beq b 3) ([(5,65)]) ([])}
def Zbj:Sk:=⟨[td,tf [ci],td,td,td,tf [se 5 3],td,td,tf [sa kPt],tf [ci],tf [ci]]++dd 13,[],[(5,65,kPt)]⟩
def Qzz:List (Ex×Sk):=[(Ex.exit 0,⟨[td,td,td,td,td,tf [se 5 3]]++dd 18,[],[(5,65,kPt)]⟩)]
def Uv:Lp:=A1 PG C_event_At_0 64 3 (A2 PG 56 3) Zbj Qzz
def Qre (D:Lp):Cfg:=C_event_At_0.loop 3 Zbj Qzz D
def Qo9 (D:Lp):Fn:=Ao PG (Qre D) 64 56 Qjo ZF
theorem Zh7 (L:Rw) (M:Int) (G:Rw) (N D:Int):Uv [.vC kPt L,I M, .vC kPt G,I N,I D]=
 cond (decide (D<N)) (cond (decide (0<=D)&&decide (D<(G.length:Int))) (cond (gA (nth [] G D.toNat) 0==M) (cond (((L++[[jA (nth [] G D.toNat) 0,jA (nth [] G D.toNat) 1,jA (nth [] G D.toNat) 2]]).length*24).ble 140737488355328) (some (0,[.vC kPt (L++[[jA (nth [] G D.toNat) 0,jA (nth [] G D.toNat) 1,jA (nth [] G D.toNat) 2]]),I M, .vC kPt G,I N,I (V (D+1))])) (none)) (some (0,[.vC kPt L,I M, .vC kPt G,I N,I (V (D+1))]))) (none)) (some (1,[.vC kPt L])):=by kernel_rfl
theorem Z7z (G:Lp) (D:Rw) (L:Int):Qo9 G [.vC kPt D,I L]=
 (G [.vC kPt [],I L, .vC kPt D,I (D.length:Int),I 0]).bind λo1=>
 cond (o1.1.beq 1) (some [.vC kPt (wA o1.2 0)]) (none):=by kernel_rfl
def Qzk:=Am (Uv)
def O8:=Qo9 Qzk
theorem Q0v:Ak PG (C_event_At_0):=Ap rfl trivial
theorem Zwa:An PG (Zqd O8):=rw2 (C:=Qre Qzk) (fl fb Q0v) Q0v
def Qds:Sk:=⟨[TS.v true (cc 13++[sb,ci,sb]++cc 5++[sb])],[],[]⟩
def UO:=qa 138 Qds Qne
def Qq4:Fn:=Ao PG Qag 64 138 Qds Qne
theorem Z7k (x0 x1 x2 x3 x4 x5 x6 x7 x8 x9 D G L:Int) (M:Bool) (N:Int) (O:Bool) (T U V X Y:Int) (a0:Bool):Qq4 [I x0,I x1,I x2,I x3,I x4,I x5,I x6,I x7,I x8,I x9,I D,I G,I L,B M,I N,B O,I T,I U,I V,I X,I Y,B a0]=
 cond (x0==2) (some [B !(x2==x5&&(x3==x6&&(x4==x7&&true)))]) (some [B false]):=by kernel_rfl
def EO:=Qq4
theorem ST:An PG (UO EO):=rw1 (C:=Qag) Zc8
def Ud:=qa 88 YY Qne
def Qr2:Fn:=Ao PG Qag 64 88 YY Qne
theorem Z8h (D:Int):Qr2 [I D]=
 cond (decide (D>=1)) (some [B (decide (D<=6))]) (some [B false]):=by kernel_rfl
def DK:=Qr2
theorem Sz:An PG (Ud DK):=rw1 (C:=Qag) Zc8
def Qs2:=qa 140 Qds Qne
def Qxd:Fn:=Ao PG Qag 64 140 Qds Qne
theorem Zrb (D x1 x2 x3 x4 x5 x6 x7 x8 x9 G L M:Int) (N:Bool) (O:Int) (T:Bool) (U V X Y a0:Int) (a1:Bool):Qxd [I D,I x1,I x2,I x3,I x4,I x5,I x6,I x7,I x8,I x9,I G,I L,I M,B N,I O,B T,I U,I V,I X,I Y,I a0,B a1]=
 cond (D==5) (some [B true]) (some [B (D==6)]):=by kernel_rfl
def HG:=Qxd
theorem Q1z:An PG (Qs2 HG):=rw1 (C:=Qag) Zc8
def Ql7:Sk:=⟨[tf [sa Ai],tf [ci]],[],[]⟩
def Zop:=qa 144 Ql7 Qne
def Wp (D G:Fn):Cfg:=cf [Ud D,Qs2 G]
def Qqm:Sk:=⟨dd 23++[tf [sa Ai],tf [ci],tf [ci]]++dd 9,[],[]⟩
def Quf:List (Ex×Sk):=[(Ex.ret,⟨[td,td,td,td,tf [sb]]++dd 30,[],[]⟩),(Ex.exit 0,⟨[td]++dd 34,[],[]⟩)]
def K9 (D G:Fn):Lp:=A1 PG (Wp D G) 64 4 (A2 PG 144 4) Qqm Quf
def Q0c (D G:Fn) (I:Lp):Cfg:=(Wp D G).loop 4 Qqm Quf I
def Qnj (D G:Fn) (I:Lp):Fn:=Ao PG (Q0c D G I) 64 144 Ql7 Qne
theorem Qv6 (M N:Fn) (G:Rw) (L D:Int):K9 M N [.vC Ai G,I L,I D]=
 cond (decide (D<L)) (cond (decide (0<=D)&&decide (D<(G.length:Int))) ((M [jA (nth [] G D.toNat) 0]).bind λO=>
 cond (bA O 0) ((N (AT Ai (nth [] G D.toNat))).bind λo6=>
 some (1,[B (bA o6 0)])) (some (0,[.vC Ai G,I L,I (V (D+1))]))) (none)) (some (2,[])):=by kernel_rfl
theorem Zw9 (N L:Fn) (M:Lp) (G:Rw) (D:Int):Qnj N L M [.vC Ai G,I D]=
 cond (decide (0<=D)&&decide (D<(G.length:Int))) (cond (gA (nth [] G D.toNat) 18==0) (some [B true]) (cond (decide (0<=D)&&decide (D<(G.length:Int))) ((L (AT Ai (nth [] G D.toNat))).bind λO=>
 cond (bA O 0) (some [B true]) (cond (decide (0<=V (D+1))&&decide (V (D+1)<=(G.length:Int))) ((M [.vC Ai (List.drop (V (D+1)).toNat G),I (↑(List.drop (V (D+1)).toNat G).length:Int),I 0]).bind λo8=>
 cond (o8.1.beq 1) (some [B (bA o8.2 0)]) (cond (o8.1.beq 2) (some [B false]) (none))) (none))) (none))) (none):=by kernel_rfl
def Q4x:=Am (K9 DK HG)
def Ro:=Qnj DK HG Q4x
theorem Qsi:Ak PG (Wp DK HG):=Ap rfl ⟨Sz,Q1z,trivial⟩
theorem Z5o:An PG (Zop Ro):=rw2 (C:=Q0c DK HG Q4x) (fl fb Qsi) Qsi
def Qgl:Sk:=⟨[tf [sd 20000 0],tf [sa Ai],tf [ci]],[(20000,102,[ci,ci,ci,se 20000 7,se 20001 3,sb,ci,ci,ci])],[(20000,111,Ah),(20001,130,kPt)]⟩
def Qkx:Sk:=⟨[TS.tup []],[(20000,102,[ci,ci,ci,se 20000 7,se 20001 3,sb,ci,ci,ci])],[(20000,111,Ah),(20001,130,kPt)]⟩
def Zeq:=qa 92 Qgl Qkx
def Qc6 (D G:Fn):Cfg:=cf [Zop D,Ud G]
def Qhr (D G:Fn):Fn:=Ao PG (Qc6 D G) 64 92 Qgl Qkx
abbrev Qek (A3:Fn) (Y:Rw) (G:Int) (M:Rw) (D:Int) (N:Rw) (O T U:Int) (V:Bool) (X L:Int):Option (List AC):=
 (A3 [jA (nth [] Y G.toNat) 0]).bind λo6=>
 cond (bA o6 0) (cond (((M++[[I D,I 2,I G]]).length*24).ble 140737488355328) (some [.vC Ah N, .vC kPt (M++[[I D,I 2,I G]]),I O,I T,I U,B V,I D,I X,I L]) (none)) (cond (gA (nth [] Y G.toNat) 0==10) (cond (((M++[[I D,I 5,I G]]).length*24).ble 140737488355328) (some [.vC Ah N, .vC kPt (M++[[I D,I 5,I G]]),I O,I T,I U,B V,I D,I X,I L]) (none)) (cond (gA (nth [] Y G.toNat) 0==13) (cond (((M++[[I D,I 4,I G]]).length*24).ble 140737488355328) (some [.vC Ah N, .vC kPt (M++[[I D,I 4,I G]]),I O,I T,I U,B V,I D,I X,I L]) (none)) (cond (((M++[[I D,I 3,I G]]).length*24).ble 140737488355328) (some [.vC Ah N, .vC kPt (M++[[I D,I 3,I G]]),I O,I T,I U,B V,I D,I X,I L]) (none))))
theorem Z8j (Nb A3:Fn) (O M N:Rw) (D T U V:Int) (X:Bool) (L Y G:Int):Qhr Nb A3 [.vC Ah O, .vC kPt M, .vC Ai N,I D,I T,I U,I V,B X,I L,I Y,I G]=
 cond (decide (0<=D)&&decide (D<(N.length:Int))) (cond (gA (nth [] N D.toNat) 0==4) (cond (((M++[[I L,I 6,I D]]).length*24).ble 140737488355328) (some [.vC Ah O, .vC kPt (M++[[I L,I 6,I D]]),I T,I U,I V,B X,I L,I Y,I G]) (none)) ((A3 [jA (nth [] N D.toNat) 0]).bind λo4=>
 cond (bA o4 0) ((Nb [.vC Ai N,I D]).bind λo5=>
 cond (bA o5 0) (cond (((M++[[I L,I 1,I D]]).length*24).ble 140737488355328) (some [.vC Ah O, .vC kPt (M++[[I L,I 1,I D]]),I T,I U,I V,B X,I L,I Y,I G]) (none)) (Qek A3 N D M L O T U V X Y G)) (Qek A3 N D M L O T U V X Y G))) (none):=by kernel_rfl
def I5:=Qhr Ro DK
theorem Zw8:Ak PG (Qc6 Ro DK):=Ap rfl ⟨Z5o,Sz,trivial⟩
theorem Zis:An PG (Zeq I5):=rw1 (C:=Qc6 Ro DK) Zw8
def Qbc:=qa 143 Qds ZE
def Qwk:Fn:=Ao PG Qag 64 143 Qds ZE
theorem Zlz (x0 x1 x2 x3 x4 x5 x6 x7 x8 x9 D G L:Int) (M:Bool) (N:Int) (O:Bool) (T U X Y a0:Int) (a1:Bool):Qwk [I x0,I x1,I x2,I x3,I x4,I x5,I x6,I x7,I x8,I x9,I D,I G,I L,B M,I N,B O,I T,I U,I X,I Y,I a0,B a1]=
 some [I (V (V (x2+x5)*8)),I (V (V (x3+x6)*8)),I (V (V (x4+x7)*8))]:=by kernel_rfl
def F9:=Qwk
theorem Qoz:An PG (Qbc F9):=rw1 (C:=Qag) Zc8
def YV:Sk:=⟨[TS.v true [si .u64,si .u64],TS.v true [si .u64,si .u64]],[],[]⟩
def Qpe:=qa 232 YV YY
def Q2a:Fn:=Ao PG Qag 64 232 YV YY
theorem Zim (D L G M:Int):Q2a [U D,U L,U G,U M]=
 cond (decide (D<G)) (some [I (-1)]) (cond (D==G) (cond (decide (L<M)) (some [I (-1)]) (cond (D==G&&(L==M&&true)) (some [I 0]) (some [I 1]))) (cond (D==G&&(L==M&&true)) (some [I 0]) (some [I 1]))):=by kernel_rfl
def H6:=Q2a
theorem Qwy:An PG (Qpe H6):=rw1 (C:=Qag) Zc8
def Q4k:=qa 288 Qba Z4
def Qgv (D G:Fn):Cfg:=cf [Qpe D,TK G]
def Q5a:Sk:=⟨[td,tf [sd 1 0],td,tf [si .u64],tf [si .u64]]++dd 16,[(1,197,[si .u64,si .u64])],[]⟩
def Q7e:List (Ex×Sk):=[(Ex.exit 0,⟨[td,td,td,tf [si .u64]]++dd 17,[],[]⟩)]
def LT (D G:Fn):Lp:=A1 PG (Qgv D G) 64 3 (A2 PG 288 3) Q5a Q7e
def Zae (D G:Fn) (I:Lp):Cfg:=(Qgv D G).loop 3 Q5a Q7e I
def Qax (D G:Fn) (I:Lp):Fn:=Ao PG (Zae D G I) 64 288 Qba Z4
theorem Q77 (M N:Fn) (G D I L:Int):LT M N [U G,U D,U I,U L]=
 cond (decide (D>0)) ((N [U (wrap .u64 (↑(BitVec.ofInt IntKind.u64.bits G|||BitVec.ofInt IntKind.u64.bits D).toNat:Int)),U (wrap .u64 (↑(BitVec.ofInt IntKind.u64.bits G|||BitVec.ofInt IntKind.u64.bits D).toNat:Int))]).bind λo3=>
 (M [U (gA o3 0),U (gA o3 1),U I,U L]).bind λo4=>
 cond (decide (gA o4 0<=0)) (some (0,[U (wrap .u64 (↑(BitVec.ofInt IntKind.u64.bits G|||BitVec.ofInt IntKind.u64.bits D).toNat:Int)),U (D.fdiv (2^min (Int.toNat 1) IntKind.u64.bits)),U I,U L])) (some (0,[U G,U (D.fdiv (2^min (Int.toNat 1) IntKind.u64.bits)),U I,U L]))) (some (1,[U G])):=by kernel_rfl
theorem Z51 (M N:Fn) (D:Lp) (G I:Int):Qax M N D [U G,U I]=
 (D [U 0,U 9223372036854775808,U G,U I]).bind λL=>
 cond (L.1.beq 1) (some [U (gA L.2 0)]) (none):=by kernel_rfl
def Qwa:=Am (LT H6 EB)
def JH:=Qax H6 EB Qwa
theorem Q8a:Ak PG (Qgv H6 EB):=Ap rfl ⟨Qwy,UD,trivial⟩
theorem Q2c:An PG (Q4k JH):=rw2 (C:=Zae H6 EB Qwa) (fl fb Q8a) Q8a
def WG:Sk:=⟨[TS.v true [si .u64,si .u64],tf [ci]],[],[]⟩
def Z5g:=qa 264 WG XR
def Qns (D G I L:Fn):Cfg:=cf [Wn D,(289,Ac Qy2 Q15 G),(171,Ac Y9 Vb I),Q4k L]
def XI (D G I L:Fn):Fn:=Ao PG (Qns D G I L) 64 264 WG XR
abbrev Qb9 (V:Int) (O:List AC) (N:Fn) (D T:List AC):Option (List AC):=
 cond (V==2) (cond (decide (gA O 0>0)) ((N [U (wrap .u64 (gA D 0+1)),B false]).bind λG=>
 some [jA G 0,B (bA G 1)]) (cond (decide (gA T 0>gA D 0)) ((N [U (wrap .u64 (gA D 0+1)),B false]).bind λI=>
 some [jA I 0,B (bA I 1)]) ((N [U (gA D 0),B false]).bind λL=>
 some [jA L 0,B (bA L 1)]))) ((N [U (gA D 0),B false]).bind λM=>
 some [jA M 0,B (bA M 1)])
theorem Zxm (M X F_ FZ:Fn) (Y x1 V:Int):XI M X F_ FZ [U Y,U x1,I V]=
 (FZ [U Y,U x1]).bind λD=>
 (F_ [U (gA D 0),U (gA D 0)]).bind λN=>
 (X [U x1,U (gA N 1),U 0]).bind λG=>
 (X [U Y,U (gA N 0),U (gA G 1)]).bind λL=>
 cond (V==1) (cond (decide (gA L 0>0)) ((M [U (wrap .u64 (gA D 0+1)),B false]).bind λO=>
 some [jA O 0,B (bA O 1)]) (cond (decide (gA G 0>0)) ((M [U (wrap .u64 (gA D 0+1)),B false]).bind λT=>
 some [jA T 0,B (bA T 1)]) (Qb9 V L M D G))) (Qb9 V L M D G):=by kernel_rfl
def T1:=XI Fd Kn Ib JH
theorem Zo9:Ak PG (Qns Fd Kn Ib JH):=Ap rfl ⟨Qie,Ztj,Qs3,Q2c,trivial⟩
theorem Zza:An PG (Z5g T1):=rw1 (C:=Qns Fd Kn Ib JH) Zo9
def Qr9:=qa 237 YD XR
def X0 (D G:Fn):Cfg:=cf [Z5g D,Qng G]
def Zd (D G:Fn):Fn:=Ao PG (X0 D G) 64 237 YD XR
theorem Z0p (L M:Fn) (D G:Int):Zd L M [I D,I G]=
 cond (decide (D<0)) (some [I 0,B false]) ((M [I G]).bind λo2=>
 cond (!bA o2 0) (some [I 0,B false]) ((L [U 0,U (wrap .u64 D),I G]).bind λo3=>
 some [jA o3 0,B (bA o3 1)])):=by kernel_rfl
def IM:=Zd T1 Gk
theorem Z27:Ak PG (X0 T1 Gk):=Ap rfl ⟨Zza,Qlh,trivial⟩
theorem Qvf:An PG (Qr9 IM):=rw1 (C:=X0 T1 Gk) Z27
def X4:Sk:=⟨[TS.v true [ci,ci,ci],TS.v true [ci,ci,ci]],[],[]⟩
def Qq0:=qa 189 X4 YY
def Qj4 (D:Fn):Cfg:={cf [Qr9 D]with unroll:=[3]}
def Wv (D:Fn):Fn:=Ao PG (Qj4 D) 64 189 X4 YY
theorem Zv7 (T:Fn) (D G L M N O:Int):Wv T [I D,I G,I L,I M,I N,I O]=
 (T [I (V (V (V (0+V (V (D-M)*V (D-M)))+V (V (G-N)*V (G-N)))+V (V (L-O)*V (L-O)))),I 1]).bind λo1=>
 some [jA o1 0]:=by kernel_rfl
def I9:=Wv IM
theorem Zyn:Ak PG (Qj4 IM):=Ap rfl ⟨Qvf,trivial⟩
theorem Qsl:An PG (Qq0 I9):=rw1 (C:=Qj4 IM) Zyn
def Qcc:Sk:=⟨[tf [sd 20000 0],TS.v true [ci,ci,ci],TS.v true (cc 7)],[(20000,102,[ci,ci,ci,se 20000 7,se 20001 3,sb,ci,ci,ci])],[(20000,111,Ah),(20001,130,kPt)]⟩
def Z5x:=qa 142 Qcc Qkx
def Zj (D:Fn):Cfg:=cf [Qq0 D]
def SL (D:Fn):Fn:=Ao PG (Zj D) 64 142 Qcc Qkx
abbrev Xy (D:Bool) (x0 x1:Rw) (x2 x3 x4 G L M N O T:Int) (Dj:Fn) (x9 U X:Int) (Y:Bool) (a0 a1 a2:AC):Option (List AC):=
 cond (!D) (some [.vC Ah x0, .vC kPt x1,I x2,I x3,I x4,B true,I G,I L,I M]) (cond (Y) (some [.vC Ah x0, .vC kPt x1,I N,I O,I T,B D,I G,I L,I M]) ((Dj [a0,a1,a2,I x2,I x3,I x4]).bind λo2=>
 cond (((x0++[[I x2,I x3,I x4,jA o2 0,I x9,I U,I X]]).length*56).ble 140737488355328) (some [.vC Ah (x0++[[I x2,I x3,I x4,jA o2 0,I x9,I U,I X]]), .vC kPt x1,I N,I O,I T,B D,I (V (G+gA o2 0)),I L,I M]) (none)))
theorem Q7a (Dj:Fn) (D x1:Rw) (x2 x3 x4 x5 x6 x7 x8 x9 N O G L M:Int) (T:Bool) (U X Y:Int):SL Dj [.vC Ah D, .vC kPt x1,I x2,I x3,I x4,I x5,I x6,I x7,I x8,I x9,I N,I O,I G,I L,I M,B T,I U,I X,I Y]=
 cond (decide ((D.length:Int)>0)) (cond (decide (0<=V ((D.length:Int)-1))&&decide (V ((D.length:Int)-1)<(D.length:Int))) (Xy T D x1 x2 x3 x4 U X Y G L M Dj x9 N O (x2==gA (nth [] D (V ((D.length:Int)-1)).toNat) 0&&(x3==gA (nth [] D (V ((D.length:Int)-1)).toNat) 1&&(x4==gA (nth [] D (V ((D.length:Int)-1)).toNat) 2&&true))) (jA (nth [] D (V ((D.length:Int)-1)).toNat) 0) (jA (nth [] D (V ((D.length:Int)-1)).toNat) 1) (jA (nth [] D (V ((D.length:Int)-1)).toNat) 2)) (none)) (Xy T D x1 x2 x3 x4 U X Y G L M Dj x9 N O (x2==G&&(x3==L&&(x4==M&&true))) (I G) (I L) (I M)):=by kernel_rfl
def Pk:=SL I9
theorem Z0l:Ak PG (Zj I9):=Ap rfl ⟨Qsl,trivial⟩
theorem Zdi:An PG (Z5x Pk):=rw1 (C:=Zj I9) Z0l
def Qjv:=qa 90 Ql7 YY
def Qx8:Sk:=⟨[tf [sa Ai],tf [ci]]++dd 20,[],[]⟩
def Q4g:List (Ex×Sk):=[(Ex.exit 0,⟨[td,tf [ci]]++dd 20,[],[]⟩)]
def PV:Lp:=A1 PG Qag 64 2 (A2 PG 90 2) Qx8 Q4g
def Q38 (D:Lp):Cfg:=Qag.loop 2 Qx8 Q4g D
def Qdn (D:Lp):Fn:=Ao PG (Q38 D) 64 90 Ql7 YY
theorem Q5m (G:Rw) (D:Int):PV [.vC Ai G,I D]=
 cond (decide (D<(G.length:Int))) (cond (decide (0<=D)&&decide (D<(G.length:Int))) (cond (gA (nth [] G D.toNat) 0==10) (some (0,[.vC Ai G,I (V (D+1))])) (some (1,[I D]))) (none)) (some (1,[I D])):=by kernel_rfl
theorem Zos (D:Lp) (G:Rw) (L:Int):Qdn D [.vC Ai G,I L]=
 (D [.vC Ai G,I (V (L+1))]).bind λo1=>
 cond (o1.1.beq 1) (some [jA o1.2 0]) (none):=by kernel_rfl
def Q5c:=Am (PV)
def Fi:=Qdn Q5c
theorem Qkn:An PG (Qjv Fi):=rw2 (C:=Q38 Q5c) (fl fb Zc8) Zc8
def Q0p:=qa 89 Ql7 Qne
def Qfg (D G:Fn):Cfg:=cf [UO D,Qjv G]
def Xh (D G:Fn):Fn:=Ao PG (Qfg D G) 64 89 Ql7 Qne
theorem Zy2 (L M:Fn) (D:Rw) (G:Int):Xh L M [.vC Ai D,I G]=
 (M [.vC Ai D,I G]).bind λo3=>
 cond (decide (0<=G)&&decide (G<(D.length:Int))) ((L (AT Ai (nth [] D G.toNat))).bind λo4=>
 cond (bA o4 0) (cond (decide (0<=G)&&decide (G<(D.length:Int))) (cond (gA (nth [] D G.toNat) 18 !=0) (cond (decide (gA o3 0<(D.length:Int))) (cond (decide (0<=gA o3 0)&&decide (gA o3 0<(D.length:Int))) ((L (AT Ai (nth [] D (gA o3 0).toNat))).bind λN=>
 some [B (bA N 0)]) (none)) (some [B false])) (some [B false])) (none)) (some [B false])) (none):=by kernel_rfl
def Hc:=Xh EO Fi
theorem Zfd:Ak PG (Qfg EO Fi):=Ap rfl ⟨ST,Qkn,trivial⟩
theorem Qt4:An PG (Q0p Hc):=rw1 (C:=Qfg EO Fi) Zfd
def Qi9:Sk:=⟨[TS.v true [ci,ci,ci],TS.v true [ci,ci,ci],TS.v true [ci,ci,ci]],[],[]⟩
def Qvo:=qa 286 Qi9 YY
def Q6u:Fn:=Ao PG Xb 64 286 Qi9 YY
theorem Zxp (D G L M N O T U X:Int):Q6u [I D,I G,I L,I M,I N,I O,I T,I U,I X]=
 some [I (V (V (V (0+V (V (V (D+T)-V (2*M))*V (V (D+T)-V (2*M))))+V (V (V (G+U)-V (2*N))*V (V (G+U)-V (2*N))))+V (V (V (L+X)-V (2*O))*V (V (L+X)-V (2*O)))))]:=by kernel_rfl
def G0:=Q6u
theorem Qwe:An PG (Qvo G0):=rw1 (C:=Xb) Zbv
def Zjv:=qa 263 Qi9 YY
def Vf (D:Fn):Cfg:=cf [Qvo D]
def Qp3:Sk:=⟨[td,td,td,tf [sd 3 0],tf [sd 4 0],tf [sd 5 0],td,tf [ci]]++dd 22,[(3,42,[ci,ci,ci]),(4,42,[ci,ci,ci]),(5,42,[ci,ci,ci])],[]⟩
def Qtl:List (Ex×Sk):=[(Ex.exit 0,⟨dd 7++[tf [ci]]++dd 22,[],[]⟩)]
def QD (D:Fn):Lp:=A1 PG (Vf D) 64 2 (A2 PG 263 2) Qp3 Qtl
def Q0t (D:Fn) (G:Lp):Cfg:=(Vf D).loop 2 Qp3 Qtl G
def ZB (D:Fn) (G:Lp):Fn:=Ao PG (Q0t D G) 64 263 Qi9 YY
theorem Z30 (CV:Fn) (D G L M N O T U X Y:Int):QD CV [I D,I G,I L,I M,I N,I O,I T,I U,I X,I Y]=
 cond (decide (D<64)) ((CV [I G,I L,I M,I N,I O,I T,I U,I X,I Y]).bind λo2=>
 cond (decide (gA o2 0>V (V (V (V (V (V (16*D)*D)*D)*D)*4)*4))) (some (0,[I (V (D*2)),I G,I L,I M,I N,I O,I T,I U,I X,I Y])) (some (1,[I D]))) (some (1,[I D])):=by kernel_rfl
theorem Zjm (Y:Fn) (D:Lp) (G L M N O T U V X:Int):ZB Y D [I G,I L,I M,I N,I O,I T,I U,I V,I X]=
 (D [I 2,I G,I L,I M,I N,I O,I T,I U,I V,I X]).bind λo3=>
 cond (o3.1.beq 1) (some [jA o3.2 0]) (none):=by kernel_rfl
def Q8g:=Am (QD G0)
def Kt:=ZB G0 Q8g
theorem Q9r:Ak PG (Vf G0):=Ap rfl ⟨Qwe,trivial⟩
theorem Zd2:An PG (Zjv Kt):=rw2 (C:=Q0t G0 Q8g) (fl fb Q9r) Q9r
def W0:Sk:=⟨[TS.v true [si .u64,si .u64],tf [si .u64]],[],[]⟩
def Qhy:Sk:=⟨[TS.tup [(true,[si .u64,si .u64]),(false,[sb])]],[],[]⟩
def Zdf:=qa 296 W0 Qhy
def Qam (D:Fn):Cfg:=cf [Q8y D]
def Qa9 (D:Fn):Fn:=Ao PG (Qam D) 64 296 W0 Qhy
theorem Zk6 (D:Fn) (I L G:Int):Qa9 D [U I,U L,U G]=
 (D [U 0,U I,U G]).bind λo2=>
 (D [U (gA o2 1),U L,U G]).bind λo3=>
 some [U (gA o2 0),U (gA o3 0),B (decide (gA o3 1>0))]:=by kernel_rfl
def T3:=Qa9 GL
theorem Z9u:Ak PG (Qam GL):=Ap rfl ⟨Qpw,trivial⟩
theorem Zrc:An PG (Zdf T3):=rw1 (C:=Qam GL) Z9u
def Q28:=qa 287 W2 XR
def Qee (D G I L M N O T:Fn):Cfg:=cf [Wn D,Q2k G,W6 I,Q4k L,Zdf M,TK N,Qng O,Qaw T]
def W9 (D G I L M N O T:Fn):Fn:=Ao PG (Qee D G I L M N O T) 64 287 W2 XR
abbrev QA (CF:Fn) (x3:Int) (Bq:Fn) (G:List AC) (L:Bool) (M D N O:AC):Option (List AC):=
 cond (L) ((CF [I x3,M,B true,D]).bind λa0=>
 cond (bA a0 0) ((Bq [U (wrap .u64 (wrap .u64 ((gA G 0).tdiv 2)+1)),D]).bind λT=>
 some [jA T 0,B (bA T 1)]) ((Bq [U (wrap .u64 ((gA G 0).tdiv 2)),D]).bind λV=>
 some [jA V 0,B (bA V 1)])) ((CF [I x3,N,O,D]).bind λa1=>
 cond (bA a1 0) ((Bq [U (wrap .u64 (wrap .u64 ((gA G 0).tdiv 2)+1)),D]).bind λX=>
 some [jA X 0,B (bA X 1)]) ((Bq [U (wrap .u64 ((gA G 0).tdiv 2)),D]).bind λY=>
 some [jA Y 0,B (bA Y 1)]))
theorem Ze9 (O T Di FZ NK BM DL V:Fn) (X Y x2 N:Int):W9 O T Di FZ NK BM DL V [I X,I Y,I x2,I N]=
 (V [I X]).bind λa3=>
 cond (decide (gA a3 0>2147483648)) (some [I 0,B false]) ((V [I Y]).bind λa4=>
 cond (decide (gA a4 0>2147483648)) (some [I 0,B false]) (cond (decide (x2<1)) (some [I 0,B false]) (cond (decide (x2>4611686018427387904)) (some [I 0,B false]) ((DL [I N]).bind λa5=>
 cond (!bA a5 0) (some [I 0,B false]) ((V [I X]).bind λa0=>
 (V [I Y]).bind λa1=>
 (BM [U (wrap .u64 (2*wrap .u64 (gA a0 0*gA a1 0))),U (wrap .u64 (2*wrap .u64 (gA a0 0*gA a1 0)))]).bind λa2=>
 (NK [U (gA a2 0),U (gA a2 1),U (wrap .u64 x2)]).bind λD=>
 (FZ [U (gA D 0),U (gA D 1)]).bind λG=>
 cond (bA D 2) ((Di [I X,I Y]).bind λa6=>
 QA T N O G ((gA G 0).tmod 2==1) (I 1) (B (decide (gA a6 0<0))) (I (-1)) (B true)) ((BM [U (gA G 0),U (gA G 0)]).bind λL=>
 (Di [I X,I Y]).bind λM=>
 cond ((gA G 0).tmod 2==1) (cond (!(gA L 0==gA D 0&&(gA L 1==gA D 1&&true))) (QA T N O G (!(gA L 0==gA D 0&&(gA L 1==gA D 1&&true))) (I 1) (B (decide (gA M 0<0))) (I 1) (B ((gA G 0).tmod 2==1))) (QA T N O G (!(gA L 0==gA D 0&&(gA L 1==gA D 1&&true))) (I 0) (B (decide (gA M 0<0))) (I 0) (B ((gA G 0).tmod 2==1)))) (QA T N O G (!(gA L 0==gA D 0&&(gA L 1==gA D 1&&true))) (I (-1)) (B (decide (gA M 0<0))) (I (-1)) (B ((gA G 0).tmod 2==1))))))))):=by kernel_rfl
def In:=W9 Fd Iv Gr JH T3 EB Gk Gf
theorem Zfn:Ak PG (Qee Fd Iv Gr JH T3 EB Gk Gf):=Ap rfl ⟨Qie,Za5,Qcg,Q2c,Zrc,UD,Qlh,VK,trivial⟩
theorem Qrw:An PG (Q28 In):=rw1 (C:=Qee Fd Iv Gr JH T3 EB Gk Gf) Zfn
def Qgd:Sk:=⟨[TS.v true [ci,ci,ci],TS.v true [ci,ci,ci],tf [ci]],[],[]⟩
def XT:Sk:=⟨[TS.tup [(true,[ci,ci,ci]),(false,[sb])]],[],[]⟩
def Qs0:=qa 262 Qgd XT
def Qfk (D:Fn):Cfg:={cf [Q28 D]with unroll:=[5,10]}
def Qn5 (D:Fn):Fn:=Ao PG (Qfk D) 64 262 Qgd XT
theorem Ze2 (U:Fn) (D G L M N O T:Int):Qn5 U [I D,I G,I L,I M,I N,I O,I T]=
 cond (M==D&&(N==G&&(O==L&&true))) (some [I 0,I 0,I 0,B false]) (cond (decide (T<0)) (some [I 0,I 0,I 0,B false]) (cond (decide (T>33554432)) (some [I 0,I 0,I 0,B false]) ((U [I (V (M-D)),I T,I (V (V (V (0+V (V (M-D)*V (M-D)))+V (V (N-G)*V (N-G)))+V (V (O-L)*V (O-L)))),I 2]).bind λo3=>
 (U [I (V (N-G)),I T,I (V (V (V (0+V (V (M-D)*V (M-D)))+V (V (N-G)*V (N-G)))+V (V (O-L)*V (O-L)))),I 2]).bind λo4=>
 (U [I (V (O-L)),I T,I (V (V (V (0+V (V (M-D)*V (M-D)))+V (V (N-G)*V (N-G)))+V (V (O-L)*V (O-L)))),I 2]).bind λX=>
 some [I (V (D+gA o3 0)),I (V (G+gA o4 0)),I (V (L+gA X 0)),B true]))):=by kernel_rfl
def GS:=Qn5 In
theorem Zpf:Ak PG (Qfk In):=Ap rfl ⟨Qrw,trivial⟩
theorem Q08:An PG (Qs0 GS):=rw1 (C:=Qfk In) Zpf
def Z5d:=qa 261 Qfe YY
def Vu (D G I:Fn):Cfg:=cf [Qvo D,Qs0 G,Qq0 I]
def Qpf:Sk:=⟨[td,td,td,tf [ci],tf [sd 4 0],tf [sd 5 0],tf [sd 6 0],td,td,tf [ci],tf [ci],tf [ci]]++dd 62,[(4,42,[ci,ci,ci]),(5,42,[ci,ci,ci]),(6,42,[ci,ci,ci])],[]⟩
def Q1r:List (Ex×Sk):=[(Ex.exit 0,⟨dd 10++[tf [ci]]++dd 63,[],[]⟩)]
def NJ (D G I:Fn):Lp:=A1 PG (Vu D G I) 64 6 (A2 PG 261 6) Qpf Q1r
def Q7k (D G I:Fn) (L:Lp):Cfg:=(Vu D G I).loop 6 Qpf Q1r L
def Qky (D G I:Fn) (L:Lp):Fn:=Ao PG (Q7k D G I L) 64 261 Qfe YY
theorem Q3t (CV Cz Dj:Fn) (O T G D U X Y L M N v10 v11 v12:Int):NJ CV Cz Dj [I O,I T,I G,I D,I U,I X,I Y,I L,I M,I N,I v10,I v11,I v12]=
 cond (decide (D>0)) (cond (decide (V (G+D)>T)) (some (0,[I O,I T,I G,I (D.fdiv (2^min (Int.toNat 1) IntKind.i64.bits)),I U,I X,I Y,I L,I M,I N,I v10,I v11,I v12])) ((Cz [I L,I M,I N,I U,I X,I Y,I (V (G+D))]).bind λo8=>
 (Cz [I L,I M,I N,I v10,I v11,I v12,I (V (G+D))]).bind λo9=>
 (CV [jA o8 0,jA o8 1,jA o8 2,I L,I M,I N,jA o9 0,jA o9 1,jA o9 2]).bind λa0=>
 cond (decide (gA a0 0<=V (V (16*O)*O))) (some (0,[I O,I T,I (V (G+D)),I (D.fdiv (2^min (Int.toNat 1) IntKind.i64.bits)),I U,I X,I Y,I L,I M,I N,I v10,I v11,I v12])) (some (0,[I O,I T,I G,I (D.fdiv (2^min (Int.toNat 1) IntKind.i64.bits)),I U,I X,I Y,I L,I M,I N,I v10,I v11,I v12])))) (some (1,[I G])):=by kernel_rfl
theorem Zk2 (CV Cz Dj:Fn) (N6:Lp) (N O T G L M U X Y x9:Int):Qky CV Cz Dj N6 [I N,I O,I T,I G,I L,I M,I U,I X,I Y,I x9]=
 cond (N==G&&(O==L&&(T==M&&true))) (some [I 0]) (cond (U==G&&(X==L&&(Y==M&&true))) (some [I 0]) ((Dj [I N,I O,I T,I G,I L,I M]).bind λa0=>
 (Dj [I G,I L,I M,I U,I X,I Y]).bind λa1=>
 (N6 [I x9,I (V (mn (gA a0 0) (gA a1 0)-2)),I 0,I 16777216,I N,I O,I T,I G,I L,I M,I U,I X,I Y]).bind λD=>
 cond (D.1.beq 1) (cond (decide (gA D.2 0<16)) (some [I 0]) (some [jA D.2 0])) (none))):=by kernel_rfl
def Q4d:=Am (NJ G0 GS I9)
def LO:=Qky G0 GS I9 Q4d
theorem Qri:Ak PG (Vu G0 GS I9):=Ap rfl ⟨Qwe,Q08,Qsl,trivial⟩
theorem Znk:An PG (Z5d LO):=rw2 (C:=Q7k G0 GS I9 Q4d) (fl fb Qri) Qri
def Zgu:=qa 235 Qfe ZF
def Qbh (D G I L:Fn):Cfg:={cf [O1 D,Zjv G,Qs0 I,Z5d L]with unroll:=[13]}
def Za7:Sk:=⟨[td,td,td,td,td,tf [sd 5 0],td,td,td,td,tf [sd 10 0],td,tf [sd 12 0],td,tf [ci],tf [se 50 3]]++dd 36++[tf [ci],tf [ci]]++dd 57,[(5,42,[ci,ci,ci]),(10,42,[ci,ci,ci]),(12,42,[ci,ci,ci])],[(50,42,kPt)]⟩
def Qpj:List (Ex×Sk):=[(Ex.exit 0,⟨dd 15++[tf [se 50 3]]++dd 95,[],[(50,42,kPt)]⟩)]
def OQ (D G I L:Fn):Lp:=A1 PG (Qbh D G I L) 64 9 (A2 PG 235 9) Za7 Qpj
def Q50 (D G I L:Fn) (M:Lp):Cfg:=(Qbh D G I L).loop 9 Za7 Qpj M
def Qjd (D G I L:Fn) (M:Lp):Fn:=Ao PG (Q50 D G I L M) 64 235 Qfe ZF
theorem Qpn (X G2 Cz Gu:Fn) (G:Rw) (T Y D L M N v7 v8 v9 v10 v11 v12:Int):OQ X G2 Cz Gu [.vC kPt G,I T,I Y,I D,I L,I M,I N,I v7,I v8,I v9,I v10,I v11,I v12]=
 cond (decide (D<Y)) (cond (decide (0<=D)&&decide (D<(G.length:Int))) ((X [I (V (V (V (V (T-D)*V (T-D))*V (v7-L))+V (V (D*D)*V (v10-L)))),I 1,I (V (T*T)),I 2]).bind λO=>
 cond (decide (0<=D)&&decide (D<(G.length:Int))) (cond (decide (0<=D)&&decide (D<(G.length:Int))) ((X [I (V (V (V (V (T-D)*V (T-D))*V (v8-M))+V (V (D*D)*V (v11-M)))),I 1,I (V (T*T)),I 2]).bind λU=>
 cond (decide (0<=D)&&decide (D<(G.length:Int))) (cond (decide (0<=D)&&decide (D<(G.length:Int))) ((X [I (V (V (V (V (T-D)*V (T-D))*V (v9-N))+V (V (D*D)*V (v12-N)))),I 1,I (V (T*T)),I 2]).bind λa0=>
 cond (decide (0<=D)&&decide (D<(G.length:Int))) (cond (decide (0<=D)&&decide (D<(G.length:Int))) (some (0,[.vC kPt ((((G.set D.toNat [I L,I M,I N]).set D.toNat [I (V (Ag (nth .vD (nth [] (G.set D.toNat [I L,I M,I N]) D.toNat) 0)+gA O 0)),I (Ag (nth .vD (nth [] (G.set D.toNat [I L,I M,I N]) D.toNat) 1)),I (Ag (nth .vD (nth [] (G.set D.toNat [I L,I M,I N]) D.toNat) 2))]).set D.toNat [I (Ag (nth .vD (nth [] ((G.set D.toNat [I L,I M,I N]).set D.toNat [I (V (Ag (nth .vD (nth [] (G.set D.toNat [I L,I M,I N]) D.toNat) 0)+gA O 0)),I (Ag (nth .vD (nth [] (G.set D.toNat [I L,I M,I N]) D.toNat) 1)),I (Ag (nth .vD (nth [] (G.set D.toNat [I L,I M,I N]) D.toNat) 2))]) D.toNat) 0)),I (V (Ag (nth .vD (nth [] ((G.set D.toNat [I L,I M,I N]).set D.toNat [I (V (Ag (nth .vD (nth [] (G.set D.toNat [I L,I M,I N]) D.toNat) 0)+gA O 0)),I (Ag (nth .vD (nth [] (G.set D.toNat [I L,I M,I N]) D.toNat) 1)),I (Ag (nth .vD (nth [] (G.set D.toNat [I L,I M,I N]) D.toNat) 2))]) D.toNat) 1)+gA U 0)),I (Ag (nth .vD (nth [] ((G.set D.toNat [I L,I M,I N]).set D.toNat [I (V (Ag (nth .vD (nth [] (G.set D.toNat [I L,I M,I N]) D.toNat) 0)+gA O 0)),I (Ag (nth .vD (nth [] (G.set D.toNat [I L,I M,I N]) D.toNat) 1)),I (Ag (nth .vD (nth [] (G.set D.toNat [I L,I M,I N]) D.toNat) 2))]) D.toNat) 2))]).set D.toNat [I (Ag (nth .vD (nth [] (((G.set D.toNat [I L,I M,I N]).set D.toNat [I (V (Ag (nth .vD (nth [] (G.set D.toNat [I L,I M,I N]) D.toNat) 0)+gA O 0)),I (Ag (nth .vD (nth [] (G.set D.toNat [I L,I M,I N]) D.toNat) 1)),I (Ag (nth .vD (nth [] (G.set D.toNat [I L,I M,I N]) D.toNat) 2))]).set D.toNat [I (Ag (nth .vD (nth [] ((G.set D.toNat [I L,I M,I N]).set D.toNat [I (V (Ag (nth .vD (nth [] (G.set D.toNat [I L,I M,I N]) D.toNat) 0)+gA O 0)),I (Ag (nth .vD (nth [] (G.set D.toNat [I L,I M,I N]) D.toNat) 1)),I (Ag (nth .vD (nth [] (G.set D.toNat [I L,I M,I N]) D.toNat) 2))]) D.toNat) 0)),I (V (Ag (nth .vD (nth [] ((G.set D.toNat [I L,I M,I N]).set D.toNat [I (V (Ag (nth .vD (nth [] (G.set D.toNat [I L,I M,I N]) D.toNat) 0)+gA O 0)),I (Ag (nth .vD (nth [] (G.set D.toNat [I L,I M,I N]) D.toNat) 1)),I (Ag (nth .vD (nth [] (G.set D.toNat [I L,I M,I N]) D.toNat) 2))]) D.toNat) 1)+gA U 0)),I (Ag (nth .vD (nth [] ((G.set D.toNat [I L,I M,I N]).set D.toNat [I (V (Ag (nth .vD (nth [] (G.set D.toNat [I L,I M,I N]) D.toNat) 0)+gA O 0)),I (Ag (nth .vD (nth [] (G.set D.toNat [I L,I M,I N]) D.toNat) 1)),I (Ag (nth .vD (nth [] (G.set D.toNat [I L,I M,I N]) D.toNat) 2))]) D.toNat) 2))]) D.toNat) 0)),I (Ag (nth .vD (nth [] (((G.set D.toNat [I L,I M,I N]).set D.toNat [I (V (Ag (nth .vD (nth [] (G.set D.toNat [I L,I M,I N]) D.toNat) 0)+gA O 0)),I (Ag (nth .vD (nth [] (G.set D.toNat [I L,I M,I N]) D.toNat) 1)),I (Ag (nth .vD (nth [] (G.set D.toNat [I L,I M,I N]) D.toNat) 2))]).set D.toNat [I (Ag (nth .vD (nth [] ((G.set D.toNat [I L,I M,I N]).set D.toNat [I (V (Ag (nth .vD (nth [] (G.set D.toNat [I L,I M,I N]) D.toNat) 0)+gA O 0)),I (Ag (nth .vD (nth [] (G.set D.toNat [I L,I M,I N]) D.toNat) 1)),I (Ag (nth .vD (nth [] (G.set D.toNat [I L,I M,I N]) D.toNat) 2))]) D.toNat) 0)),I (V (Ag (nth .vD (nth [] ((G.set D.toNat [I L,I M,I N]).set D.toNat [I (V (Ag (nth .vD (nth [] (G.set D.toNat [I L,I M,I N]) D.toNat) 0)+gA O 0)),I (Ag (nth .vD (nth [] (G.set D.toNat [I L,I M,I N]) D.toNat) 1)),I (Ag (nth .vD (nth [] (G.set D.toNat [I L,I M,I N]) D.toNat) 2))]) D.toNat) 1)+gA U 0)),I (Ag (nth .vD (nth [] ((G.set D.toNat [I L,I M,I N]).set D.toNat [I (V (Ag (nth .vD (nth [] (G.set D.toNat [I L,I M,I N]) D.toNat) 0)+gA O 0)),I (Ag (nth .vD (nth [] (G.set D.toNat [I L,I M,I N]) D.toNat) 1)),I (Ag (nth .vD (nth [] (G.set D.toNat [I L,I M,I N]) D.toNat) 2))]) D.toNat) 2))]) D.toNat) 1)),I (V (Ag (nth .vD (nth [] (((G.set D.toNat [I L,I M,I N]).set D.toNat [I (V (Ag (nth .vD (nth [] (G.set D.toNat [I L,I M,I N]) D.toNat) 0)+gA O 0)),I (Ag (nth .vD (nth [] (G.set D.toNat [I L,I M,I N]) D.toNat) 1)),I (Ag (nth .vD (nth [] (G.set D.toNat [I L,I M,I N]) D.toNat) 2))]).set D.toNat [I (Ag (nth .vD (nth [] ((G.set D.toNat [I L,I M,I N]).set D.toNat [I (V (Ag (nth .vD (nth [] (G.set D.toNat [I L,I M,I N]) D.toNat) 0)+gA O 0)),I (Ag (nth .vD (nth [] (G.set D.toNat [I L,I M,I N]) D.toNat) 1)),I (Ag (nth .vD (nth [] (G.set D.toNat [I L,I M,I N]) D.toNat) 2))]) D.toNat) 0)),I (V (Ag (nth .vD (nth [] ((G.set D.toNat [I L,I M,I N]).set D.toNat [I (V (Ag (nth .vD (nth [] (G.set D.toNat [I L,I M,I N]) D.toNat) 0)+gA O 0)),I (Ag (nth .vD (nth [] (G.set D.toNat [I L,I M,I N]) D.toNat) 1)),I (Ag (nth .vD (nth [] (G.set D.toNat [I L,I M,I N]) D.toNat) 2))]) D.toNat) 1)+gA U 0)),I (Ag (nth .vD (nth [] ((G.set D.toNat [I L,I M,I N]).set D.toNat [I (V (Ag (nth .vD (nth [] (G.set D.toNat [I L,I M,I N]) D.toNat) 0)+gA O 0)),I (Ag (nth .vD (nth [] (G.set D.toNat [I L,I M,I N]) D.toNat) 1)),I (Ag (nth .vD (nth [] (G.set D.toNat [I L,I M,I N]) D.toNat) 2))]) D.toNat) 2))]) D.toNat) 2)+gA a0 0))]),I T,I Y,I (V (D+1)),I L,I M,I N,I v7,I v8,I v9,I v10,I v11,I v12])) (none)) (none)) (none)) (none)) (none)) (none)) (none)) (some (1,[.vC kPt G])):=by kernel_rfl
theorem Q1j (A9 G2 X Gu:Fn) (N9:Lp) (Y x1 x2 M N O x6 x7 x8 x9:Int):Qjd A9 G2 X Gu N9 [I Y,I x1,I x2,I M,I N,I O,I x6,I x7,I x8,I x9]=
 (Gu [I Y,I x1,I x2,I M,I N,I O,I x6,I x7,I x8,I x9]).bind λT=>
 cond (gA T 0==0) (some [.vC kPt [[I M,I N,I O]]]) ((X [I M,I N,I O,I Y,I x1,I x2,jA T 0]).bind λG=>
 (X [I M,I N,I O,I x6,I x7,I x8,jA T 0]).bind λL=>
 (G2 [jA G 0,jA G 1,jA G 2,I M,I N,I O,jA L 0,jA L 1,jA L 2]).bind λD=>
 cond (decide (V (gA D 0+1)=V (gA D 0+1))) (cond (decide (0<=V (gA D 0+1))&&decide (V (gA D 0+1)*(↑24:Int)<=140737488355328)) ((N9 [.vC kPt (List.replicate (V (gA D 0+1)).toNat [I 0,I 0,I 0]),jA D 0,I (↑(List.replicate (V (gA D 0+1)).toNat [I 0,I 0,I 0]).length:Int),I 0,I M,I N,I O,jA G 0,jA G 1,jA G 2,jA L 0,jA L 1,jA L 2]).bind λU=>
 cond (U.1.beq 1) (some [.vC kPt (wA U.2 0)]) (none)) (none)) (none)):=by kernel_rfl
def Q0e:=Am (OQ CO Kt GS LO)
def Pp:=Qjd CO Kt GS LO Q0e
theorem Q3k:Ak PG (Qbh CO Kt GS LO):=Ap rfl ⟨P2,Zd2,Q08,Znk,trivial⟩
theorem Z2m:An PG (Zgu Pp):=rw2 (C:=Q50 CO Kt GS LO Q0e) (fl fb Q3k) Q3k
def Zyq:=qa 236 ZE ZE
def Qu5:Fn:=Ao PG Qag 64 236 ZE ZE
theorem Zk9 (D G L:Int):Qu5 [I D,I G,I L]=
 some [I (V (D*16)),I (V (G*16)),I (V (L*16))]:=by kernel_rfl
def Ov:=Qu5
theorem Zmd:An PG (Zyq Ov):=rw1 (C:=Qag) Zc8
def ZG:Sk:=⟨[TS.v true (cc 13++[sb,ci,sb]++cc 5++[sb]),TS.v true (cc 13++[sb,ci,sb]++cc 5++[sb])],[],[]⟩
def Qo2:Sk:=⟨[TS.tup [(false,[sa kPt]),(false,[sa kPt])]],[],[]⟩
def Zdj:=qa 188 ZG Qo2
def Qeo (D G I:Fn):Cfg:=cf [Zgu D,Zyq G,Qbc I]
def Qgq (D G I:Fn):Fn:=Ao PG (Qeo D G I) 64 188 ZG Qo2
theorem Z8e (Nf Oz Ce:Fn) (x0 x1 x2 x3 x4 x5 x6 x7 x8 x9 L M N:Int) (O:Bool) (T:Int) (U:Bool) (X Y G a0 a1:Int) (a2:Bool) (a3 a4 a5 a6 a7 a8 a9 b0 b1 b2 b3 b4 b5:Int) (b6:Bool) (b7:Int) (b8:Bool) (b9 c0 c1 c2 c3:Int) (c4:Bool):Qgq Nf Oz Ce [I x0,I x1,I x2,I x3,I x4,I x5,I x6,I x7,I x8,I x9,I L,I M,I N,B O,I T,B U,I X,I Y,I G,I a0,I a1,B a2,I a3,I a4,I a5,I a6,I a7,I a8,I a9,I b0,I b1,I b2,I b3,I b4,I b5,B b6,I b7,B b8,I b9,I c0,I c1,I c2,I c3,B c4]=
 (Ce [I x0,I x1,I x2,I x3,I x4,I x5,I x6,I x7,I x8,I x9,I L,I M,I N,B O,I T,B U,I X,I Y,I G,I a0,I a1,B a2]).bind λo4=>
 (Oz [I x5,I x6,I x7]).bind λo5=>
 (Ce [I a3,I a4,I a5,I a6,I a7,I a8,I a9,I b0,I b1,I b2,I b3,I b4,I b5,B b6,I b7,B b8,I b9,I c0,I c1,I c2,I c3,B c4]).bind λo6=>
 (Nf [jA o4 0,jA o4 1,jA o4 2,jA o5 0,jA o5 1,jA o5 2,jA o6 0,jA o6 1,jA o6 2,I (V (G*16))]).bind λD=>
 cond (decide (0<=V (V ((V ((↑(wA D 0).length:Int)-1)).tdiv 2)+1))&&decide (V (V ((V ((↑(wA D 0).length:Int)-1)).tdiv 2)+1)<=(↑(wA D 0).length:Int))) (cond (decide (0<=V ((V ((↑(wA D 0).length:Int)-1)).tdiv 2))&&decide (V ((V ((↑(wA D 0).length:Int)-1)).tdiv 2)<=(↑(wA D 0).length:Int))) (some [.vC kPt (List.take (V (V ((V ((↑(wA D 0).length:Int)-1)).tdiv 2)+1)).toNat (wA D 0)), .vC kPt (List.drop (V ((V ((↑(wA D 0).length:Int)-1)).tdiv 2)).toNat (wA D 0))]) (none)) (none):=by kernel_rfl
def Q4:=Qgq Pp Ov F9
theorem Zyy:Ak PG (Qeo Pp Ov F9):=Ap rfl ⟨Z2m,Zmd,Qoz,trivial⟩
theorem Z1c:An PG (Zdj Q4):=rw1 (C:=Qeo Pp Ov F9) Zyy
def Qei:Sk:=⟨[TS.tup [(false,[ci]),(false,[ci]),(false,[ci]),(false,[sb])]],[],[]⟩
def Qmg:=qa 179 YY Qei
def Qq6:Fn:=Ao PG Qag 64 179 YY Qei
theorem Z0x (D:Int):Qq6 [I D]=
 cond (D==17) (some [I 0,I 1,I 2,B true]) (cond (D==18) (some [I 2,I 0,I 1,B true]) (cond (D==19) (some [I 1,I 2,I 0,B true]) (some [I 0,I 0,I 0,B false]))):=by kernel_rfl
def Fz:=Qq6
theorem Qm6:An PG (Qmg Fz):=rw1 (C:=Qag) Zc8
def Zez:=qa 234 W2 ZE
def Qe7 (D:Fn):Cfg:=cf [Qmg D]
def Qgk (D:Fn):Fn:=Ao PG (Qe7 D) 64 234 W2 ZE
abbrev T6 (o1:List AC) (M:Int) (D G L:AC):Option (List AC):=
 cond (decide (gA o1 2=(↑0:Int))) (some [I M,D,G]) (cond (decide (gA o1 2=(↑(0+1):Int))) (some [L,I M,G]) (cond (decide (gA o1 2=(↑(0+1+1):Int))) (some [L,D,I M]) (none)))
abbrev R7 (o1:List AC) (M N:Int) (D G L:AC):Option (List AC):=
 cond (decide (gA o1 1=(↑0:Int))) (T6 o1 M D G (I N)) (cond (decide (gA o1 1=(↑(0+1):Int))) (T6 o1 M (I N) G L) (cond (decide (gA o1 1=(↑(0+1+1):Int))) (T6 o1 M D (I N) L) (none)))
theorem Zuo (M:Fn) (D G L N:Int):Qgk M [I D,I G,I L,I N]=
 (M [I N]).bind λo1=>
 cond (bA o1 3) (cond (decide (gA o1 0=(↑0:Int))) (R7 o1 L G (I 0) (I 0) (I D)) (cond (decide (gA o1 0=(↑(0+1):Int))) (R7 o1 L G (I D) (I 0) (I 0)) (cond (decide (gA o1 0=(↑(0+1+1):Int))) (R7 o1 L G (I 0) (I D) (I 0)) (none)))) (some [I 0,I 0,I 0]):=by kernel_rfl
def MY:=Qgk Fz
theorem Z8n:Ak PG (Qe7 Fz):=Ap rfl ⟨Qm6,trivial⟩
theorem Z14:An PG (Zez MY):=rw1 (C:=Qe7 Fz) Z8n
def Qhj:Sk:=⟨[TS.tup [(false,[ci]),(false,[ci]),(false,[ci])]],[],[]⟩
def Qvz:=qa 173 Qf9 Qhj
def VY (D:Fn):Cfg:=cf [Qmg D]
def Vc (D:Fn):Fn:=Ao PG (VY D) 64 173 Qf9 Qhj
abbrev R9 (o1:List AC) (D:AC) (L M N:Int) (G:AC):Option (List AC):=
 cond (decide (gA o1 2=(↑0:Int))) (some [D,G,I L]) (cond (decide (gA o1 2=(↑(0+1):Int))) (some [D,G,I M]) (cond (decide (gA o1 2=(↑(0+1+1):Int))) (some [D,G,I N]) (none)))
abbrev SU (o1:List AC) (G L M:Int) (D:AC):Option (List AC):=
 cond (decide (gA o1 1=(↑0:Int))) (R9 o1 D G L M (I G)) (cond (decide (gA o1 1=(↑(0+1):Int))) (R9 o1 D G L M (I L)) (cond (decide (gA o1 1=(↑(0+1+1):Int))) (R9 o1 D G L M (I M)) (none)))
theorem Z8d (M:Fn) (D G L N:Int):Vc M [I D,I G,I L,I N]=
 (M [I N]).bind λo1=>
 cond (!bA o1 3) (some [I 0,I 0,I 0]) (cond (decide (gA o1 0=(↑0:Int))) (SU o1 D G L (I D)) (cond (decide (gA o1 0=(↑(0+1):Int))) (SU o1 D G L (I G)) (cond (decide (gA o1 0=(↑(0+1+1):Int))) (SU o1 D G L (I L)) (none)))):=by kernel_rfl
def HX:=Vc Fz
theorem Zhd:Ak PG (VY Fz):=Ap rfl ⟨Qm6,trivial⟩
theorem Qtg:An PG (Qvz HX):=rw1 (C:=VY Fz) Zhd
def Q8w:=qa 231 ZE ZE
def Qq8:Fn:=Ao PG Qag 64 231 ZE ZE
theorem Zle (D G L:Int):Qq8 [I D,I G,I L]=
 some [I (V (D*16)),I (V (G*16)),I (V (L*16))]:=by kernel_rfl
def Hu:=Qq8
theorem Q5v:An PG (Q8w Hu):=rw1 (C:=Qag) Zc8
def Qm0:Sk:=⟨[TS.v true [ci,ci,ci,ci],TS.v true [ci,ci,ci,ci]],[],[]⟩
def Qhe:=qa 183 Qm0 YY
def Qsw:Fn:=Ao PG Qag 64 183 Qm0 YY
theorem Zlh (D G N O L M T U:Int):Qsw [I D,I G,I N,I O,I L,I M,I T,I U]=
 some [I (V (V (D*M)-V (G*L)))]:=by kernel_rfl
def G1:=Qsw
theorem W1:An PG (Qhe G1):=rw1 (C:=Qag) Zc8
def Qn4:=qa 181 Qm0 YY
def Qu8:Fn:=Ao PG Qag 64 181 Qm0 YY
theorem Zwf (D G N O L M T U:Int):Qu8 [I D,I G,I N,I O,I L,I M,I T,I U]=
 some [I (V (V (D*L)+V (G*M)))]:=by kernel_rfl
def GC:=Qu8
theorem ZA:An PG (Qn4 GC):=rw1 (C:=Qag) Zc8
def Qkh:Sk:=⟨[TS.v true [ci,ci,ci,ci],TS.v true [ci,ci,ci,ci],tf [ci],tf [sb]],[],[]⟩
def Qcs:Sk:=⟨[TS.tup [(true,[ci,ci,ci,ci]),(false,[sb])]],[],[]⟩
def Z5k:=qa 285 Qkh Qcs
def Qfu (D G I:Fn):Cfg:=cf [Q28 D,Qhe G,Qn4 I]
def Qde (D G I:Fn):Fn:=Ao PG (Qfu D G I) 64 285 Qkh Qcs
abbrev Qaa (U:Fn) (G:AC) (M N:Int) (D L:AC) (X Y:Int):Option (List AC):=
 (U [G,I ((V (V (M+N)+1)).fdiv (2^min (Int.toNat 1) IntKind.i64.bits)),D,I 2]).bind λO=>
 (U [L,I ((V (V (M+N)+1)).fdiv (2^min (Int.toNat 1) IntKind.i64.bits)),D,I 2]).bind λT=>
 some [jA O 0,jA T 0,I ((V (V (M+N)+1)).fdiv (2^min (Int.toNat 1) IntKind.i64.bits)),I ((V (V (X+Y)+1)).fdiv (2^min (Int.toNat 1) IntKind.i64.bits)),B true]
abbrev QZ (O:Fn) (T U V X:Int) (M N:Bool) (D G L:AC):Option (List AC):=
 cond (M) (cond (N) (some [I 0,I 0,I 0,I 0,B false]) (Qaa O D T U G L V X)) (Qaa O D T U G L V X)
abbrev YI (x9:Bool) (Y:Fn) (O T U X D G:Int) (Cr:Fn) (L M N:Int) (CU:Fn):Option (List AC):=
 cond (x9) (QZ Y O T U X (V (0-D)==0) (V (0-G)==0) (I (V (0-D))) (I (V (V (V (0-D)*V (0-D))+V (V (0-G)*V (0-G))))) (I (V (0-G)))) ((Cr [I D,I G,I O,I U,I L,I M,I T,I X]).bind λa0=>
 cond (decide (gA a0 0<=0)) (QZ Y O T U X (V (N*V (M-G))==0) (V (N*V (D-L))==0) (I (V (N*V (M-G)))) (I (V (V (V (N*V (M-G))*V (N*V (M-G)))+V (V (N*V (D-L))*V (N*V (D-L)))))) (I (V (N*V (D-L))))) ((CU [I D,I G,I O,I U,I L,I M,I T,I X]).bind λa1=>
 cond (decide (V (gA a1 0*N)<=0)) (QZ Y O T U X (V (0-V (D+L))==0) (V (0-V (G+M))==0) (I (V (0-V (D+L)))) (I (V (V (V (0-V (D+L))*V (0-V (D+L)))+V (V (0-V (G+M))*V (0-V (G+M)))))) (I (V (0-V (G+M))))) (QZ Y O T U X (V (D+L)==0) (V (G+M)==0) (I (V (D+L))) (I (V (V (V (D+L)*V (D+L))+V (V (G+M)*V (G+M))))) (I (V (G+M))))))
theorem Zne (G L M:Fn) (N O T U V X Y x7 D:Int) (x9:Bool):Qde G L M [I N,I O,I T,I U,I V,I X,I Y,I x7,I D,B x9]=
 cond (D !=1) (cond (D != -1) (some [I 0,I 0,I 0,I 0,B false]) (YI x9 G T Y U x7 N O M V X D L)) (YI x9 G T Y U x7 N O M V X D L):=by kernel_rfl
def Mu:=Qde In G1 GC
theorem Z0v:Ak PG (Qfu In G1 GC):=Ap rfl ⟨Qrw,W1,ZA,trivial⟩
theorem Z2i:An PG (Z5k Mu):=rw1 (C:=Qfu In G1 GC) Z0v
def Ztc:=qa 295 YD Qne
def Q11:Fn:=Ao PG Qag 64 295 YD Qne
theorem Zya (D G:Int):Q11 [I D,I G]=
 some [B (decide (G<=V (V (V (8*D)*4)-64)))]:=by kernel_rfl
def Oc:=Q11
theorem Zcj:An PG (Ztc Oc):=rw1 (C:=Qag) Zc8
def Qcz:Sk:=⟨[tf [sd 20000 0],TS.v true [ci,ci,ci,ci],TS.v true [ci,ci,ci,ci],tf [sb]],[(20000,304,[ci,se 20000 4])],[(20000,228,[kI,kI,kI,kI])]⟩
def WJ:Sk:=⟨[tf [sb]],[(20000,304,[ci,se 20000 4])],[(20000,228,[kI,kI,kI,kI])]⟩
def Zjt:=qa 284 Qcz WJ
def Qom (D G:Fn):Cfg:=cf [Ztc D,Qhe G]
def Qgc (D G:Fn):Fn:=Ao PG (Qom D G) 64 284 Qcz WJ
theorem Zft (X Y:Fn) (G:Rw) (L M T x4 N O U x8:Int) (x9:Bool) (D:Int):Qgc X Y [.vC [kI,kI,kI,kI] G,I L,I M,I T,I x4,I N,I O,I U,I x8,B x9,I D]=
 cond (!x9) ((Y [I L,I M,I T,I x4,I N,I O,I U,I x8]).bind λo2=>
 cond (decide (V (gA o2 0*D)>0)) ((X [I (mn T U),I (V (V (V (L-N)*V (L-N))+V (V (M-O)*V (M-O))))]).bind λo3=>
 some [.vC [kI,kI,kI,kI] G,B (bA o3 0),I D]) (some [.vC [kI,kI,kI,kI] G,B false,I D])) (some [.vC [kI,kI,kI,kI] G,B false,I D]):=by kernel_rfl
def Lw:=Qgc Oc G1
theorem Zs8:Ak PG (Qom Oc G1):=Ap rfl ⟨Zcj,W1,trivial⟩
theorem Zn9:An PG (Zjt Lw):=rw1 (C:=Qom Oc G1) Zs8
def Qwj:Nat:=20
def L9:Sk:=⟨[tf [sd 20000 0],TS.v true [ci,ci,ci,ci],TS.v true [ci,ci,ci,ci],tf [sb],tf [ci]],[(20000,304,[ci,se 20000 4])],[(20000,228,[kI,kI,kI,kI])]⟩
def Ms:Sk:=⟨[TS.tup []],[(20000,304,[ci,se 20000 4])],[(20000,228,[kI,kI,kI,kI])]⟩
def Zbh:=qa 260 L9 Ms
def Qms (D G I:Fn):Cfg:=cp [Zbh D,Z5k G,Zjt I] [260,284]
def Ut (D G I:Fn):Fn:=Ao PG (Qms D G I) 64 260 L9 Ms
theorem Qp2 (Fx NQ N0:Fn) (U:Rw) (X Y x3 x4 D G L M:Int) (x9:Bool) (N T:Int):Ut Fx NQ N0 [.vC [kI,kI,kI,kI] U,I X,I Y,I x3,I x4,I D,I G,I L,I M,B x9,I N,I T]=
 cond (decide (N<16)) ((N0 [.vC [kI,kI,kI,kI] U,I X,I Y,I x3,I x4,I D,I G,I L,I M,B x9,I T]).bind λo4=>
 cond (!bA o4 1) ((NQ [I X,I Y,I x3,I x4,I D,I G,I L,I M,jA o4 2,B x9]).bind λO=>
 cond (bA O 4) ((Fx [.vC [kI,kI,kI,kI] (wA o4 0),I X,I Y,I x3,I x4,jA O 0,jA O 1,jA O 2,jA O 3,B false,I (V (N+1)),jA o4 2]).bind λo6=>
 (Fx [.vC [kI,kI,kI,kI] (wA o6 0),jA O 0,jA O 1,jA O 2,jA O 3,I D,I G,I L,I M,B false,I (V (N+1)),jA o6 1]).bind λo7=>
 some [.vC [kI,kI,kI,kI] (wA o7 0),jA o7 1]) (cond (((wA o4 0++[[I D,I G,I L,I M]]).length*32).ble 140737488355328) (some [.vC [kI,kI,kI,kI] (wA o4 0++[[I D,I G,I L,I M]]),jA o4 2]) (none))) (cond (((wA o4 0++[[I D,I G,I L,I M]]).length*32).ble 140737488355328) (some [.vC [kI,kI,kI,kI] (wA o4 0++[[I D,I G,I L,I M]]),jA o4 2]) (none))) (cond (((U++[[I D,I G,I L,I M]]).length*32).ble 140737488355328) (some [.vC [kI,kI,kI,kI] (U++[[I D,I G,I L,I M]]),I T]) (none)):=by kernel_rfl
def Za2 (M:Fn):Fn:=Ut M Mu Lw
def Ou:Nat->Fn
 |0=>λ_=>none
 |n+1=>Za2 (Ou n)
theorem Zyl {M:Fn} (h:An PG (260,Ac L9 Ms M)):Ak PG (Qms M Mu Lw):=Ap rfl ⟨h,Z2i,Zn9,trivial⟩
theorem Zfz {M:Fn} (h:An PG (260,Ac L9 Ms M)):An PG (260,Ac L9 Ms (Za2 M)):=Qmr (C:=Qms M Mu Lw) (L:=64) (by kernel_rfl) (FnOK.bare rfl rfl rfl) (Zyl h) eqOk Hq (by kernel_rfl) (by kernel_rfl)
theorem Q8j:∀n,An PG (260,Ac L9 Ms (Ou n))
 |0=>Mr
 |n+1=>Zfz (Q8j n)
def Sn:=Ou Qwj
theorem Zvv:An PG (Zbh Sn):=Q8j Qwj
def Qcn:Sk:=⟨[TS.tup [(true,[ci,ci,ci,ci]),(true,[ci,ci,ci,ci])]],[],[]⟩
def Q48:=qa 180 Qds Qcn
def Zy (D G:Fn):Cfg:=cf [Qvz D,Q8w G]
def Qzx:Sk:=⟨[td,tf [sd 1 0],tf [sd 2 0],tf [sd 3 0],tf [sd 4 0],tf [ci],tf [ci]]++dd 20++[TS.v true (cc 6),tf [ci]]++dd 27,[(1,31,cc 13++[sb,ci,sb]++cc 5++[sb]),(2,228,[ci,ci,ci,ci]),(3,228,[ci,ci,ci,ci]),(4,277,cc 8)],[]⟩
def Qxs:List (Ex×Sk):=[(Ex.exit 0,⟨[td,td,tf [sd 2 0],tf [sd 3 0],tf [sd 4 0]]++dd 51,[(2,228,[ci,ci,ci,ci]),(3,228,[ci,ci,ci,ci]),(4,277,cc 8)],[]⟩)]
def Qn9 (D G:Fn):Lp:=A1 PG (Zy D G) 64 4 (A2 PG 180 4) Qzx Qxs
def Qsq (D G:Fn) (I:Lp):Cfg:=(Zy D G).loop 4 Qzx Qxs I
def X3 (D G:Fn) (I:Lp):Fn:=Ao PG (Qsq D G I) 64 180 Qds Qcn
abbrev Qgr (B_ Cn:Fn) (G v8 v0 v1 v2 v3 v4 v5 v6 v7 v9 v10 v11 v12 L M N O T U v20 v21:Int) (v22:Bool) (X:Int) (v24:Bool) (v25 Y v27 v28 a0:Int) (v30:Bool) (v31 a1 v33 a2 v35 v36 v37 v38 a6 v44 a7 v46 a8 v40 a9 v42:Int) (a3 a4 a5:AC):Option (Nat×List AC):=
 (B_ [a3,a4,a5]).bind λo9=>
 (Cn [jA o9 0,jA o9 1,jA o9 2,I G]).bind λD=>
 cond (decide (v8=(↑0:Int))) (some (0,[I v0,I v1,I v2,I v3,I v4,I v5,I v6,I v7,I (V (v8+1)),I v9,I v10,I v11,I v12,I L,I M,I N,I O,I G,I T,I U,I v20,I v21,B v22,I X,B v24,I v25,I Y,I v27,I v28,I a0,B v30,I v31,I a1,I v33,I a2,I v35,I v36,I v37,I v38,I (V (gA D 0-v0)),I (V (gA D 1-v1)),I 0,jA D 2,I a6,I v44,I a7,I v46])) (cond (decide (v8=(↑(0+1):Int))) (some (0,[I v0,I v1,I v2,I v3,I v4,I v5,I v6,I v7,I (V (v8+1)),I v9,I v10,I v11,I v12,I L,I M,I N,I O,I G,I T,I U,I v20,I v21,B v22,I X,B v24,I v25,I Y,I v27,I v28,I a0,B v30,I v31,I a1,I v33,I a2,I v35,I v36,I v37,I v38,I a8,I v40,I a9,I v42,I (V (gA D 0-v0)),I (V (gA D 1-v1)),I 0,jA D 2])) (none))
theorem Qml (Cn B_:Fn) (v0 v1 v2 v3 v4 v5 v6 v7 v8 v9 v10 v11 v12 T U V X Y a0 a1 v20 v21:Int) (v22:Bool) (a2:Int) (v24:Bool) (v25 a3 v27 v28 a4:Int) (v30:Bool) (v31 D v33 G v35 v36 v37 v38 L v40 M v42 N v44 O v46:Int):Qn9 Cn B_ [I v0,I v1,I v2,I v3,I v4,I v5,I v6,I v7,I v8,I v9,I v10,I v11,I v12,I T,I U,I V,I X,I Y,I a0,I a1,I v20,I v21,B v22,I a2,B v24,I v25,I a3,I v27,I v28,I a4,B v30,I v31,I D,I v33,I G,I v35,I v36,I v37,I v38,I L,I v40,I M,I v42,I N,I v44,I O,I v46]=
 cond (decide (v8<2)) (cond (decide (v8=(↑0:Int))) (Qgr B_ Cn Y v8 v0 v1 v2 v3 v4 v5 v6 v7 v9 v10 v11 v12 T U V X a0 a1 v20 v21 v22 a2 v24 v25 a3 v27 v28 a4 v30 v31 D v33 G v35 v36 v37 v38 N v44 O v46 L v40 M v42 (I v2) (I v3) (I v4)) (cond (decide (v8=(↑(0+1):Int))) (Qgr B_ Cn Y v8 v0 v1 v2 v3 v4 v5 v6 v7 v9 v10 v11 v12 T U V X a0 a1 v20 v21 v22 a2 v24 v25 a3 v27 v28 a4 v30 v31 D v33 G v35 v36 v37 v38 N v44 O v46 L v40 M v42 (I v5) (I v6) (I v7)) (none))) (some (1,[I v31,I D,I v33,I G,I v35,I v36,I v37,I v38,I L,I v40,I M,I v42,I N,I v44,I O,I v46])):=by kernel_rfl
theorem Zu2 (Cn B_:Fn) (N4:Lp) (x0 x1 x2 x3 x4 x5 x6 x7 x8 x9 G L N:Int) (O:Bool) (T:Int) (U:Bool) (V X Y a0 a1:Int) (a2:Bool):X3 Cn B_ N4 [I x0,I x1,I x2,I x3,I x4,I x5,I x6,I x7,I x8,I x9,I G,I L,I N,B O,I T,B U,I V,I X,I Y,I a0,I a1,B a2]=
 (B_ [I x9,I G,I L]).bind λM=>
 (Cn [jA M 0,jA M 1,jA M 2,I x8]).bind λa3=>
 (N4 [jA a3 0,jA a3 1,I x2,I x3,I x4,I x5,I x6,I x7,I 0,I x0,I x1,I x2,I x3,I x4,I x5,I x6,I x7,I x8,I x9,I G,I L,I N,B O,I T,B U,I V,I X,I Y,I a0,I a1,B a2,I 0,I 0,I 0,I 0,I 0,I 0,I 0,I 0,I 0,I 0,I 0,I 0,I 0,I 0,I 0,I 0]).bind λD=>
 cond (D.1.beq 1) (some [jA D.2 8,jA D.2 9,jA D.2 10,jA D.2 11,jA D.2 12,jA D.2 13,jA D.2 14,jA D.2 15]) (none):=by kernel_rfl
def Zap:=Am (Qn9 HX Hu)
def KB:=X3 HX Hu Zap
theorem Q3q:Ak PG (Zy HX Hu):=Ap rfl ⟨Qtg,Q5v,trivial⟩
theorem Q4j:An PG (Q48 KB):=rw2 (C:=Qsq HX Hu Zap) (fl fb Q3q) Q3q
def Z6k:=qa 186 W2 YY
def Qiv (D G I L:Fn):Cfg:=cf [Qpe D,TK G,Qaw I,W6 L]
def Qmy (D G I L:Fn):Fn:=Ao PG (Qiv D G I L) 64 186 W2 YY
theorem Zby (D_ N D O:Fn) (T X Y x3:Int):Qmy D_ N D O [I T,I X,I Y,I x3]=
 (O [I T,I X]).bind λo9=>
 (O [I Y,I x3]).bind λG=>
 cond (gA o9 0 !=gA G 0) (cond (decide (gA o9 0<gA G 0)) (some [I (-1)]) (some [I 1])) ((D [I T]).bind λa0=>
 (D [I X]).bind λa1=>
 (N [U (gA a0 0),U (gA a1 0)]).bind λL=>
 (D [I Y]).bind λa2=>
 (D [I x3]).bind λa3=>
 (N [U (gA a2 0),U (gA a3 0)]).bind λM=>
 (D_ [U (gA L 0),U (gA L 1),U (gA M 0),U (gA M 1)]).bind λa4=>
 some [I (V (gA o9 0*gA a4 0))]):=by kernel_rfl
def O0:=Qmy H6 EB Gf Gr
theorem Z3f:Ak PG (Qiv H6 EB Gf Gr):=Ap rfl ⟨Qwy,UD,VK,Qcg,trivial⟩
theorem Zqz:An PG (Z6k O0):=rw1 (C:=Qiv H6 EB Gf Gr) Z3f
def Zxy:=qa 182 YD Qne
def Ya (D:Fn):Cfg:=cf [Z6k D]
def XS (D:Fn):Fn:=Ao PG (Ya D) 64 182 YD Qne
theorem Zph (L:Fn) (D G:Int):XS L [I D,I G]=
 cond (decide (V (V (mx D G-mn D G)-16)<=0)) (some [B true]) ((L [I (V (V (mx D G-mn D G)-16)),I (V (V (mx D G-mn D G)-16)),I 64,I (mn D G)]).bind λo1=>
 some [B (decide (gA o1 0<=0))]):=by kernel_rfl
def P8:=XS O0
theorem Zhc:Ak PG (Ya O0):=Ap rfl ⟨Zqz,trivial⟩
theorem Z9w:An PG (Zxy P8):=rw1 (C:=Ya O0) Zhc
def Zli:=qa 178 ZE Qne
def Zav:Fn:=Ao PG Qbt 64 178 ZE Qne
theorem Zm7 (D G L:Int):Zav [I D,I G,I L]=
 cond (decide (D< -1048576)) (some [B false]) (cond (decide (D>1048576)) (some [B false]) (cond (decide (G< -1048576)) (some [B false]) (cond (decide (G>1048576)) (some [B false]) (cond (decide (L< -1048576)) (some [B false]) (cond (decide (L>1048576)) (some [B false]) (some [B true])))))):=by kernel_rfl
def NG:=Zav
theorem Zqr:An PG (Zli NG):=rw1 (C:=Qbt) Zvb
def Z6:=qa 132 Qds Qne
def W7 (D G I L M N:Fn):Cfg:=cf [Qhe D,Zxy G,Qn4 I,Q48 L,Qmg M,Zli N]
def Qmh (D G I L M N:Fn):Fn:=Ao PG (W7 D G I L M N) 64 132 Qds Qne
abbrev Qfn (HI:Fn) (x9 G L:Int) (ES:Fn) (x0 x1 x2 x3 x4 x5 x6 x7 x8 T:Int) (M:Bool) (U:Int) (X:Bool) (Y a0 a1 a2 a3:Int) (a4:Bool) (Cr JD CU:Fn):Option (List AC):=
 (HI [I x9,I G,I L]).bind λa5=>
 cond (!bA a5 0) (some [B false]) ((ES [I x0,I x1,I x2,I x3,I x4,I x5,I x6,I x7,I x8,I x9,I G,I L,I T,B M,I U,B X,I Y,I a0,I a1,I a2,I a3,B a4]).bind λD=>
 (Cr [jA D 0,jA D 1,jA D 2,jA D 3,jA D 0,jA D 1,jA D 2,jA D 3]).bind λN=>
 (Cr [jA D 4,jA D 5,jA D 6,jA D 7,jA D 4,jA D 5,jA D 6,jA D 7]).bind λO=>
 cond (decide (gA N 0<V (128*128))) (some [B false]) (cond (decide (gA O 0<V (128*128))) (some [B false]) ((JD [I (V ((gA N 0).tdiv 256)),I (V ((gA O 0).tdiv 256))]).bind λa6=>
 cond (!bA a6 0) (some [B false]) (cond (M) (cond (gA D 0==gA D 4) (some [B (gA D 1==gA D 5)]) (some [B false])) ((CU [jA D 0,jA D 1,jA D 2,jA D 3,jA D 4,jA D 5,jA D 6,jA D 7]).bind λa7=>
 cond (gA a7 0 !=0) (some [B true]) ((Cr [jA D 0,jA D 1,jA D 2,jA D 3,jA D 4,jA D 5,jA D 6,jA D 7]).bind λa8=>
 some [B (decide (gA a8 0<0))]))))))
theorem Zvi (CU JD Cr ES D5 HI:Fn) (x0 x1 x2 x3 x4 x5 x6 x7 x8 x9 G L D:Int) (M:Bool) (N:Int) (O:Bool) (T U V X Y:Int) (a0:Bool):Qmh CU JD Cr ES D5 HI [I x0,I x1,I x2,I x3,I x4,I x5,I x6,I x7,I x8,I x9,I G,I L,I D,B M,I N,B O,I T,I U,I V,I X,I Y,B a0]=
 cond (decide (x0<1)) (some [B false]) (cond (decide (x0>6)) (some [B false]) ((HI [I x2,I x3,I x4]).bind λa1=>
 cond (!bA a1 0) (some [B false]) ((HI [I x5,I x6,I x7]).bind λa2=>
 cond (!bA a2 0) (some [B false]) (cond (x0 !=3) (some [B true]) ((D5 [I x8]).bind λa3=>
 cond (!bA a3 3) (some [B false]) (cond (D !=1) (cond (D != -1) (some [B false]) (Qfn HI x9 G L ES x0 x1 x2 x3 x4 x5 x6 x7 x8 D M N O T U V X Y a0 Cr JD CU)) (Qfn HI x9 G L ES x0 x1 x2 x3 x4 x5 x6 x7 x8 D M N O T U V X Y a0 Cr JD CU))))))):=by kernel_rfl
def GN:=Qmh G1 P8 GC KB Fz NG
theorem Zef:Ak PG (W7 G1 P8 GC KB Fz NG):=Ap rfl ⟨W1,Z9w,ZA,Q4j,Qm6,Zqr,trivial⟩
theorem ZD:An PG (Z6 GN):=rw1 (C:=W7 G1 P8 GC KB Fz NG) Zef
def Qil:Sk:=⟨[TS.tup [(false,[sa [kI,kI,kI,kI]]),(false,[sb])]],[],[]⟩
def Zn2:=qa 233 Qds Qil
def VS (D G I L M:Fn):Cfg:={cp [Zbh D,Qr9 G,Qn4 I,Q48 L,Z6 M] [260]with rowDst:=[39]}
def Qls (D G I L M:Fn):Fn:=Ao PG (VS D G I L M) 64 233 Qds Qil
theorem Z0c (Fx FD Cr ES CI:Fn) (x0 x1 x2 x3 x4 x5 x6 x7 x8 x9 L M D:Int) (G:Bool) (N:Int) (O:Bool) (T U V X Y:Int) (a0:Bool):Qls Fx FD Cr ES CI [I x0,I x1,I x2,I x3,I x4,I x5,I x6,I x7,I x8,I x9,I L,I M,I D,B G,I N,B O,I T,I U,I V,I X,I Y,B a0]=
 cond (x0 !=3) (some [.vC [kI,kI,kI,kI] [],B false]) ((CI [I x0,I x1,I x2,I x3,I x4,I x5,I x6,I x7,I x8,I x9,I L,I M,I D,B G,I N,B O,I T,I U,I V,I X,I Y,B a0]).bind λo7=>
 cond (!bA o7 0) (some [.vC [kI,kI,kI,kI] [],B false]) ((ES [I x0,I x1,I x2,I x3,I x4,I x5,I x6,I x7,I x8,I x9,I L,I M,I D,B G,I N,B O,I T,I U,I V,I X,I Y,B a0]).bind λo8=>
 (Cr [jA o8 0,jA o8 1,jA o8 2,jA o8 3,jA o8 0,jA o8 1,jA o8 2,jA o8 3]).bind λo9=>
 (FD [jA o9 0,I 2]).bind λa1=>
 (Cr [jA o8 4,jA o8 5,jA o8 6,jA o8 7,jA o8 4,jA o8 5,jA o8 6,jA o8 7]).bind λa2=>
 (FD [jA a2 0,I 2]).bind λa3=>
 (Fx [.vC [kI,kI,kI,kI] [[jA o8 0,jA o8 1,jA a1 0,jA o8 3]],jA o8 0,jA o8 1,jA a1 0,jA o8 3,jA o8 4,jA o8 5,jA a3 0,jA o8 7,B G,I 0,I D]).bind λa4=>
 some [.vC [kI,kI,kI,kI] (wA a4 0),B true])):=by kernel_rfl
def OU:=Qls Sn IM GC KB GN
theorem Z5a:Ak PG (VS Sn IM GC KB GN):=Ap rfl ⟨Zvv,Qvf,ZA,Q4j,ZD,trivial⟩
theorem Zi6:An PG (Zn2 OU):=rw1 (C:=VS Sn IM GC KB GN) Z5a
def Qeg:Sk:=⟨[TS.tup [(false,[sa kPt]),(false,[sb])]],[],[]⟩
def Znw:=qa 187 Qds Qeg
def Qbs (D G I L M:Fn):Cfg:=cf [Zez D,Qvz G,Q8w I,Zn2 L,Z6 M]
def Qyd:Sk:=⟨[td,tf [sd 1 0],td,td,td,td,tf [ci],tf [ci],td,tf [se 41 3]]++dd 32++[tf [sa [kI,kI,kI,kI]],tf [ci],tf [ci]]++dd 22,[(1,31,cc 13++[sb,ci,sb]++cc 5++[sb])],[(41,42,kPt)]⟩
def Q74:List (Ex×Sk):=[(Ex.exit 0,⟨dd 9++[tf [se 41 3]]++dd 57,[],[(41,42,kPt)]⟩)]
def Oj (D G I L M:Fn):Lp:=A1 PG (Qbs D G I L M) 64 9 (A2 PG 187 9) Qyd Q74
def Zbd (D G I L M:Fn) (N:Lp):Cfg:=(Qbs D G I L M).loop 9 Qyd Q74 N
def Ua (D G I L M:Fn) (N:Lp):Fn:=Ao PG (Zbd D G I L M N) 64 187 Qds Qeg
theorem Qzt (Hh Cn B_ Gw CI:Fn) (v0:Rw) (v1 v2:Int) (M:Rw) (v4 D v6 v7 v8 v9 v10 v11 v12 N G O T U X:Int) (Y:Bool) (v20:Int) (v21:Bool) (v22 a0 v24 v25 a1:Int) (v27:Bool):Oj Hh Cn B_ Gw CI [.vC kPt v0,I v1,I v2, .vC [kI,kI,kI,kI] M,I v4,I D,I v6,I v7,I v8,I v9,I v10,I v11,I v12,I N,I G,I O,I T,I U,I X,B Y,I v20,B v21,I v22,I a0,I v24,I v25,I a1,B v27]=
 cond (decide (D<v4)) (cond (decide (0<=D)&&decide (D<(M.length:Int))) ((Hh [I (V (v1+gA (nth [] M D.toNat) 0)),I (V (v2+gA (nth [] M D.toNat) 1)),jA (nth [] M D.toNat) 3,I G]).bind λL=>
 cond (decide (0<=D)&&decide (D<(v0.length:Int))) (some (0,[.vC kPt (v0.set D.toNat [jA L 0,jA L 1,jA L 2]),I v1,I v2, .vC [kI,kI,kI,kI] M,I v4,I (V (D+1)),I v6,I v7,I v8,I v9,I v10,I v11,I v12,I N,I G,I O,I T,I U,I X,B Y,I v20,B v21,I v22,I a0,I v24,I v25,I a1,B v27])) (none)) (none)) (some (1,[.vC kPt v0])):=by kernel_rfl
theorem VN (Hh Cn B_ Gw CI:Fn) (N9:Lp) (x0 x1 x2 x3 x4 x5 x6 x7 x8 x9 G L M:Int) (N:Bool) (O:Int) (T:Bool) (U V X Y a0:Int) (a1:Bool):Ua Hh Cn B_ Gw CI N9 [I x0,I x1,I x2,I x3,I x4,I x5,I x6,I x7,I x8,I x9,I G,I L,I M,B N,I O,B T,I U,I V,I X,I Y,I a0,B a1]=
 (CI [I x0,I x1,I x2,I x3,I x4,I x5,I x6,I x7,I x8,I x9,I G,I L,I M,B N,I O,B T,I U,I V,I X,I Y,I a0,B a1]).bind λa7=>
 cond (!bA a7 0) (some [.vC kPt [],B false]) ((Gw [I x0,I x1,I x2,I x3,I x4,I x5,I x6,I x7,I x8,I x9,I G,I L,I M,B N,I O,B T,I U,I V,I X,I Y,I a0,B a1]).bind λD=>
 cond (!bA D 1) ((B_ [I x2,I x3,I x4]).bind λa2=>
 (B_ [I x5,I x6,I x7]).bind λa3=>
 some [.vC kPt [[jA a2 0,jA a2 1,jA a2 2],[jA a3 0,jA a3 1,jA a3 2]],B true]) ((B_ [I x9,I G,I L]).bind λa4=>
 (Cn [jA a4 0,jA a4 1,jA a4 2,I x8]).bind λa5=>
 cond (decide ((↑(wA D 0).length:Int)=(↑(wA D 0).length:Int))) (cond (decide (0<=(↑(wA D 0).length:Int))&&decide ((↑(wA D 0).length:Int)*(↑24:Int)<=140737488355328)) ((N9 [.vC kPt (List.replicate (↑(wA D 0).length:Int).toNat [I 0,I 0,I 0]),jA a5 0,jA a5 1, .vC [kI,kI,kI,kI] (wA D 0),I (↑(wA D 0).length:Int),I 0,I x0,I x1,I x2,I x3,I x4,I x5,I x6,I x7,I x8,I x9,I G,I L,I M,B N,I O,B T,I U,I V,I X,I Y,I a0,B a1]).bind λa6=>
 cond (a6.1.beq 1) (some [.vC kPt (wA a6.2 0),B true]) (none)) (none)) (none))):=by kernel_rfl
def Zam:=Am (Oj MY HX Hu OU GN)
def PL:=Ua MY HX Hu OU GN Zam
theorem Qu2:Ak PG (Qbs MY HX Hu OU GN):=Ap rfl ⟨Z14,Qtg,Q5v,Zi6,ZD,trivial⟩
theorem Zh2:An PG (Znw PL):=rw2 (C:=Zbd MY HX Hu OU GN Zam) (fl fb Qu2) Qu2
def Qkw:Sk:=⟨[tf [sa Ai],tf [ci],tf [ci]],[],[]⟩
def Zg3:=qa 141 Qkw ZF
def ZZ (D G I L M N:Fn):Cfg:=cf [Qbc D,Qjv G,Q0p I,Zdj L,UO M,Znw N]
def Ww (D G I L M N:Fn):Fn:=Ao PG (ZZ D G I L M N) 64 141 Qkw ZF
theorem Zko (Ce BD Cc KW BA NP:Fn) (G:Rw) (U x2:Int):Ww Ce BD Cc KW BA NP [.vC Ai G,I U,I x2]=
 cond (decide (0<=U)&&decide (U<(G.length:Int))) ((NP (AT Ai (nth [] G U.toNat))).bind λD=>
 (BA (AT Ai (nth [] G U.toNat))).bind λa2=>
 cond (!bA a2 0) (some [.vC kPt (wA D 0)]) (cond (decide (0<=1)&&decide (1<=(↑(wA D 0).length:Int))) (cond (decide (0<=V ((↑(wA D 0).length:Int)-1))&&decide (V ((↑(wA D 0).length:Int)-1)<=(↑(wA D 0).length:Int))) (cond (decide (x2>=0)) (cond (decide (0<=x2)&&decide (x2<(G.length:Int))) ((KW (AT Ai (nth [] G x2.toNat)++AT Ai (nth [] G U.toNat))).bind λT=>
 (Cc [.vC Ai G,I U]).bind λa3=>
 cond (bA a3 0) ((BD [.vC Ai G,I U]).bind λX=>
 cond (decide (0<=gA X 0)&&decide (gA X 0<(G.length:Int))) ((KW (AT Ai (nth [] G U.toNat)++AT Ai (nth [] G (gA X 0).toNat))).bind λa0=>
 cond ((([]++wA T 1).length*24).ble 140737488355328) ((Ce (AT Ai (nth [] G U.toNat))).bind λL=>
 cond ((([]++wA T 1++[[jA L 0,jA L 1,jA L 2]]).length*24).ble 140737488355328) (cond ((([]++wA T 1++[[jA L 0,jA L 1,jA L 2]]++wA a0 0).length*24).ble 140737488355328) (some [.vC kPt ([]++wA T 1++[[jA L 0,jA L 1,jA L 2]]++wA a0 0)]) (none)) (none)) (none)) (none)) (cond ((([]++wA T 1).length*24).ble 140737488355328) ((Ce (AT Ai (nth [] G U.toNat))).bind λM=>
 cond ((([]++wA T 1++[[jA M 0,jA M 1,jA M 2]]).length*24).ble 140737488355328) (cond ((([]++wA T 1++[[jA M 0,jA M 1,jA M 2]]++List.drop (V ((↑(wA D 0).length:Int)-1)).toNat (wA D 0)).length*24).ble 140737488355328) (some [.vC kPt ([]++wA T 1++[[jA M 0,jA M 1,jA M 2]]++List.drop (V ((↑(wA D 0).length:Int)-1)).toNat (wA D 0))]) (none)) (none)) (none))) (none)) ((Cc [.vC Ai G,I U]).bind λa4=>
 cond (bA a4 0) ((BD [.vC Ai G,I U]).bind λY=>
 cond (decide (0<=gA Y 0)&&decide (gA Y 0<(G.length:Int))) ((KW (AT Ai (nth [] G U.toNat)++AT Ai (nth [] G (gA Y 0).toNat))).bind λa1=>
 cond ((([]++List.take (Int.toNat 1) (wA D 0)).length*24).ble 140737488355328) ((Ce (AT Ai (nth [] G U.toNat))).bind λN=>
 cond ((([]++List.take (Int.toNat 1) (wA D 0)++[[jA N 0,jA N 1,jA N 2]]).length*24).ble 140737488355328) (cond ((([]++List.take (Int.toNat 1) (wA D 0)++[[jA N 0,jA N 1,jA N 2]]++wA a1 0).length*24).ble 140737488355328) (some [.vC kPt ([]++List.take (Int.toNat 1) (wA D 0)++[[jA N 0,jA N 1,jA N 2]]++wA a1 0)]) (none)) (none)) (none)) (none)) (cond ((([]++List.take (Int.toNat 1) (wA D 0)).length*24).ble 140737488355328) ((Ce (AT Ai (nth [] G U.toNat))).bind λO=>
 cond ((([]++List.take (Int.toNat 1) (wA D 0)++[[jA O 0,jA O 1,jA O 2]]).length*24).ble 140737488355328) (cond ((([]++List.take (Int.toNat 1) (wA D 0)++[[jA O 0,jA O 1,jA O 2]]++List.drop (V ((↑(wA D 0).length:Int)-1)).toNat (wA D 0)).length*24).ble 140737488355328) (some [.vC kPt ([]++List.take (Int.toNat 1) (wA D 0)++[[jA O 0,jA O 1,jA O 2]]++List.drop (V ((↑(wA D 0).length:Int)-1)).toNat (wA D 0))]) (none)) (none)) (none)))) (none)) (none))) (none):=by kernel_rfl
def Nc:=Ww F9 Fi Hc Q4 EO PL
theorem Zx8:Ak PG (ZZ F9 Fi Hc Q4 EO PL):=Ap rfl ⟨Qoz,Qkn,Qt4,Z1c,ST,Zh2,trivial⟩
theorem Z5e:An PG (Zg3 Nc):=rw1 (C:=ZZ F9 Fi Hc Q4 EO PL) Zx8
def Qc8:Sk:=⟨[TS.v true (cc 13++[sb,ci,sb]++cc 5++[sb]),tf [ci]],[],[]⟩
def Zkd:=qa 139 Qc8 YY
def Y_ (D:Fn):Cfg:=cf [O1 D]
def VF (D:Fn):Fn:=Ao PG (Y_ D) 64 139 Qc8 YY
theorem Qwb (A9:Fn) (x0 x1 x2 x3 x4 x5 x6 x7 x8 x9 M N O:Int) (T:Bool) (D:Int) (G:Bool) (U X Y a0 a1:Int) (a2:Bool) (L:Int):VF A9 [I x0,I x1,I x2,I x3,I x4,I x5,I x6,I x7,I x8,I x9,I M,I N,I O,B T,I D,B G,I U,I X,I Y,I a0,I a1,B a2,I L]=
 cond (x0==1) (some [I 0]) (cond (G) ((A9 [I (mn (V (D*mx L 1)) 60000000),I 4096,I 60000,I 2]).bind λo2=>
 some [I (mx (gA o2 0) 1)]) ((A9 [I (mn D 60000000),I 4096,I 60000,I 2]).bind λo3=>
 some [I (mx (gA o3 0) 1)])):=by kernel_rfl
def JI:=VF CO
theorem Zq8:Ak PG (Y_ CO):=Ap rfl ⟨P2,trivial⟩
theorem Z67:An PG (Zkd JI):=rw1 (C:=Y_ CO) Zq8
def Qip:Sk:=⟨[tf [sd 20000 0],tf [sa Ai],tf [ci],tf [ci]],[(20000,102,[ci,ci,ci,se 20000 7,se 20001 3,sb,ci,ci,ci])],[(20000,111,Ah),(20001,130,kPt)]⟩
def Qcd:Sk:=⟨[tf [sb]],[(20000,102,[ci,ci,ci,se 20000 7,se 20001 3,sb,ci,ci,ci])],[(20000,111,Ah),(20001,130,kPt)]⟩
def Z6f:=qa 91 Qip Qcd
def Z3 (D G I L M N:Fn):Cfg:=cp [Qbc D,UO G,Z5x I,Zg3 L,Qs2 M,Zkd N] [142]
def Q5q:Sk:=⟨[tf [sd 20000 0]]++dd 8++[tf [sd 9 0],tf [sd 10 0]]++dd 24++[tf [sa kPt],tf [ci],tf [ci]]++dd 30,[(9,31,cc 13++[sb,ci,sb]++cc 5++[sb]),(10,111,cc 7),(20000,102,[ci,ci,ci,se 20000 7,se 20001 3,sb,ci,ci,ci])],[(20000,111,Ah),(20001,130,kPt)]⟩
def Qyg:List (Ex×Sk):=[(Ex.exit 0,⟨[tf [sd 20000 0]]++dd 67,[(20000,102,[ci,ci,ci,se 20000 7,se 20001 3,sb,ci,ci,ci])],[(20000,111,Ah),(20001,130,kPt)]⟩)]
def Me (D G I L M N:Fn):Lp:=A1 PG (Z3 D G I L M N) 64 6 (A2 PG 91 6) Q5q Qyg
def Qr7 (D G I L M N:Fn) (O:Lp):Cfg:=(Z3 D G I L M N).loop 6 Q5q Qyg O
def Qjm (D G I L M N:Fn) (O:Lp):Fn:=Ao PG (Qr7 D G I L M N O) 64 91 Qip Qcd
theorem Za9 (Ce BA G6 Fb CN Hb:Fn) (v0 v1 v2:Rw) (v3 G v5 v6 v7 v8 v9 v10 v11 v12 L M N O T:Int) (U:Bool) (X:Int) (v20:Bool) (v21 v22 Y v24 v25:Int) (a0:Bool) (v27 v28 a1 v30 v31 a2 v33 a3 v35 v36:Int) (v37:Bool) (v38 a4 v40:Int):Me Ce BA G6 Fb CN Hb [.vC Ah v0, .vC kPt v1, .vC kPt v2,I v3,I G,I v5,I v6,I v7,I v8,I v9,I v10,I v11,I v12,I L,I M,I N,I O,I T,B U,I X,B v20,I v21,I v22,I Y,I v24,I v25,B a0,I v27,I v28,I a1,I v30,I v31,I a2,I v33,I a3,I v35,I v36,B v37,I v38,I a4,I v40]=
 cond (decide (G<v3)) (cond (decide (0<=G)&&decide (G<(v2.length:Int))) ((G6 [.vC Ah v0, .vC kPt v1,jA (nth [] v2 G.toNat) 0,jA (nth [] v2 G.toNat) 1,jA (nth [] v2 G.toNat) 2,I v27,I v28,I a1,I v30,I v31,I a2,I v33,I a3,I v35,I v36,B v37,I v38,I a4,I v40]).bind λD=>
 (BA [I v5,I v6,I v7,I v8,I v9,I v10,I v11,I v12,I L,I M,I N,I O,I T,B U,I X,B v20,I v21,I v22,I Y,I v24,I v25,B a0]).bind λa6=>
 cond (bA a6 0) ((Ce [I v5,I v6,I v7,I v8,I v9,I v10,I v11,I v12,I L,I M,I N,I O,I T,B U,I X,B v20,I v21,I v22,I Y,I v24,I v25,B a0]).bind λa5=>
 cond (gA (nth [] v2 G.toNat) 0==gA a5 0&&(gA (nth [] v2 G.toNat) 1==gA a5 1&&(gA (nth [] v2 G.toNat) 2==gA a5 2&&true))) (some (0,[.vC Ah (wA D 0), .vC kPt (wA D 1), .vC kPt v2,I v3,I (V (G+1)),I v5,I v6,I v7,I v8,I v9,I v10,I v11,I v12,I L,I M,I N,I O,I T,B U,I X,B v20,I v21,I v22,I Y,I v24,I v25,B a0,I v27,I v28,I a1,I v30,I v31,I a2,I v33,jA D 2,jA D 3,jA D 4,B (bA D 5),jA D 6,jA D 7,jA D 6])) (some (0,[.vC Ah (wA D 0), .vC kPt (wA D 1), .vC kPt v2,I v3,I (V (G+1)),I v5,I v6,I v7,I v8,I v9,I v10,I v11,I v12,I L,I M,I N,I O,I T,B U,I X,B v20,I v21,I v22,I Y,I v24,I v25,B a0,I v27,I v28,I a1,I v30,I v31,I a2,I v33,jA D 2,jA D 3,jA D 4,B (bA D 5),jA D 6,jA D 7,jA D 8]))) (some (0,[.vC Ah (wA D 0), .vC kPt (wA D 1), .vC kPt v2,I v3,I (V (G+1)),I v5,I v6,I v7,I v8,I v9,I v10,I v11,I v12,I L,I M,I N,I O,I T,B U,I X,B v20,I v21,I v22,I Y,I v24,I v25,B a0,I v27,I v28,I a1,I v30,I v31,I a2,I v33,jA D 2,jA D 3,jA D 4,B (bA D 5),jA D 6,jA D 7,jA D 8]))) (none)) (some (1,[.vC Ah v0, .vC kPt v1,I a3,I v35,I v36,B v37,I v38,I a4,I v40])):=by kernel_rfl
abbrev Qcv (V:Fn) (U:Rw) (M X:Int) (Y:Lp) (x0 x1:Rw) (N:List AC) (x5 x6 x7:Int) (x8:Bool) (x9 O T:Int) (G:AC):Option (List AC):=
 (V [.vC Ai U,I M,I X]).bind λL=>
 (Y (.vC Ah x0:: .vC kPt x1:: .vC kPt (wA L 0)::I (↑(wA L 0).length:Int)::I 0::(AT Ai (nth [] U M.toNat)++[I 0,I 0,I 0,I 0,I M,jA N 0,G,I x5,I x6,I x7,B x8,I x9,I O,I T]))).bind λD=>
 cond (D.1.beq 1) (some [.vC Ah (wA D.2 0), .vC kPt (wA D.2 1),B (decide ((↑(wA D.2 0).length:Int)<=1048576)),jA D.2 2,jA D.2 3,jA D.2 4,B (bA D.2 5),jA D.2 6,jA D.2 7,jA D.2 8]) (none)
theorem Z9k (Ce BA G6 O CN Hb:Fn) (T:Lp) (U X L:Rw) (G Y x5 x6 x7:Int) (x8:Bool) (x9 D M:Int):Qjm Ce BA G6 O CN Hb T [.vC Ah U, .vC kPt X, .vC Ai L,I G,I Y,I x5,I x6,I x7,B x8,I x9,I D,I M]=
 cond (decide (0<=G)&&decide (G<(L.length:Int))) ((Hb (AT Ai (nth [] L G.toNat)++[I D])).bind λN=>
 (CN (AT Ai (nth [] L G.toNat))).bind λa0=>
 cond (bA a0 0) (Qcv O L G Y T U X N x5 x6 x7 x8 x9 D M (I (mn (V (gA (nth [] L G.toNat) 14*16)) 16777216))) (Qcv O L G Y T U X N x5 x6 x7 x8 x9 D M (I 0))) (none):=by kernel_rfl
def Qrx:=Am (Me F9 EO Pk Nc HG JI)
def Kk:=Qjm F9 EO Pk Nc HG JI Qrx
theorem Qu1:Ak PG (Z3 F9 EO Pk Nc HG JI):=Ap rfl ⟨Qoz,ST,Zdi,Z5e,Q1z,Z67,trivial⟩
theorem Z8o:An PG (Z6f Kk):=rw2 (C:=Qr7 F9 EO Pk Nc HG JI Qrx) (fl fb Qu1) Qu1
def Zyz:=qa 87 Qds YY
def V4 (D G:Fn):Cfg:=cf [Z6 D,Ud G]
def Qgy (D G:Fn):Fn:=Ao PG (V4 D G) 64 87 Qds YY
abbrev Lh (L D G:Int):Option (List AC):=
 cond (L==8) (cond (decide (D<3)) (some [I 1]) (cond (decide (D>5)) (some [I 1]) (cond (decide (G<0)) (some [I 1]) (cond (decide (G>30000)) (some [I 1]) (some [I 0]))))) (some [I 0])
theorem Zod (CI A3:Fn) (L x1 x2 x3 x4 x5 x6 x7 x8 x9 O T U:Int) (V:Bool) (M:Int) (X:Bool) (Y a0 N D G:Int) (a1:Bool):Qgy CI A3 [I L,I x1,I x2,I x3,I x4,I x5,I x6,I x7,I x8,I x9,I O,I T,I U,B V,I M,B X,I Y,I a0,I N,I D,I G,B a1]=
 cond (decide (L<1)) (some [I 1]) (cond (decide (L>14)) (some [I 1]) ((A3 [I L]).bind λo4=>
 cond (bA o4 0) ((CI [I L,I x1,I x2,I x3,I x4,I x5,I x6,I x7,I x8,I x9,I O,I T,I U,B V,I M,B X,I Y,I a0,I N,I D,I G,B a1]).bind λo5=>
 cond (!bA o5 0) (some [I 1]) (cond (decide (N<0)) (some [I 1]) (cond (decide (N>1000)) (some [I 1]) ((A3 [I L]).bind λo6=>
 cond (bA o6 0) (cond (L !=1) (cond (decide (M<1)) (some [I 1]) (cond (decide (M>60000000)) (some [I 1]) (Lh L D G))) (Lh L D G)) (Lh L D G))))) ((A3 [I L]).bind λo7=>
 cond (bA o7 0) (cond (L !=1) (cond (decide (M<1)) (some [I 1]) (cond (decide (M>60000000)) (some [I 1]) (Lh L D G))) (Lh L D G)) (Lh L D G)))):=by kernel_rfl
def Ja:=Qgy GN DK
theorem Zo3:Ak PG (V4 GN DK):=Ap rfl ⟨ZD,Sz,trivial⟩
theorem Yam:An PG (Zyz Ja):=rw1 (C:=V4 GN DK) Zo3
def Qnm:Sk:=⟨[tf [sa Ai]],[],[]⟩
def Qka:Sk:=⟨[TS.tup [(false,[sd 13 0]),(false,[ci])]],[(13,102,[ci,ci,ci,se 1013003 7,se 1013004 3,sb,ci,ci,ci])],[(1013003,111,Ah),(1013004,130,kPt)]⟩
def Qq2:=qa 46 Qnm Qka
def Qat (D G I L M N:Fn):Cfg:=cp [Zeq D,Z6f G,Qjv I,Q0p L,Ud M,Zyz N] [92,91]
def Q5r:Sk:=⟨[tf [sa Ai],td,td,td,tf [sd 13 0],tf [ci]]++dd 12++[tf [sa Ai],tf [ci],tf [ci]]++dd 87,[(13,102,[ci,ci,ci,se 1013003 7,se 1013004 3,sb,ci,ci,ci])],[(1013003,111,Ah),(1013004,130,kPt)]⟩
def Qqo:List (Ex×Sk):=[(Ex.ret,⟨[td,td,tf [sd 13 0],tf [ci]]++dd 104,[(13,102,[ci,ci,ci,se 1013003 7,se 1013004 3,sb,ci,ci,ci])],[(1013003,111,Ah),(1013004,130,kPt)]⟩),(Ex.exit 0,⟨[tf [sa Ai],td,td,td,tf [sd 13 0]]++dd 103,[(13,102,[ci,ci,ci,se 1013003 7,se 1013004 3,sb,ci,ci,ci])],[(1013003,111,Ah),(1013004,130,kPt)]⟩)]
def Qf (D G I L M N:Fn):Lp:=A1 PG (Qat D G I L M N) 64 6 (A2 PG 46 6) Q5r Qqo
def Qxo (D G I L M N:Fn) (O:Lp):Cfg:=(Qat D G I L M N).loop 6 Q5r Qqo O
def Q9g:Sk:=⟨[tf [sa Ai],td,td,td,tf [sd 13 0],tf [ci]]++dd 44++[tf [sa Ai],tf [ci],tf [ci]]++dd 55,[(13,102,[ci,ci,ci,se 1013003 7,se 1013004 3,sb,ci,ci,ci])],[(1013003,111,Ah),(1013004,130,kPt)]⟩
def Zah:List (Ex×Sk):=[(Ex.ret,⟨[td,td,tf [sd 13 0],tf [ci]]++dd 104,[(13,102,[ci,ci,ci,se 1013003 7,se 1013004 3,sb,ci,ci,ci])],[(1013003,111,Ah),(1013004,130,kPt)]⟩),(Ex.exit 2,⟨[td,td,td,td,tf [sd 13 0]]++dd 103,[(13,102,[ci,ci,ci,se 1013003 7,se 1013004 3,sb,ci,ci,ci])],[(1013003,111,Ah),(1013004,130,kPt)]⟩)]
def PK (D G I L M N:Fn) (O:Lp):Lp:=A1 PG (Qxo D G I L M N O) 64 18 (A2 PG 46 18) Q9g Zah
def Q3l (G I L M N O:Fn) (T D:Lp):Cfg:=(Qxo G I L M N O T).loop 18 Q9g Zah D
def Qis (G I L M N O:Fn) (T D:Lp):Fn:=Ao PG (Q3l G I L M N O T D) 64 46 Qnm Qka
theorem Q3f (Co Cs BD Cc A3 Eo:Fn) (O T M:Rw) (N:Int) (L:Rw) (v5 G U X Y:Int) (v10:Bool) (v11 v12 D:Int):Qf Co Cs BD Cc A3 Eo [.vC Ah O, .vC kPt T, .vC Ai M,I N, .vC Ai L,I v5,I G,I U,I X,I Y,B v10,I v11,I v12,I D]=
 cond (decide (G<v5)) (cond (decide (0<=G)&&decide (G<(L.length:Int))) ((Eo (AT Ai (nth [] L G.toNat))).bind λa0=>
 cond (gA a0 0 !=0) (some (1,[.vC Ah O, .vC kPt T,jA a0 0,I U,I X,I Y,B v10,I v11,I v12,I D])) ((A3 [jA (nth [] L G.toNat) 0]).bind λa1=>
 cond (!bA a1 0) (some (0,[.vC Ah O, .vC kPt T, .vC Ai M,I N, .vC Ai L,I v5,I (V (G+1)),I U,I X,I Y,B v10,I v11,I v12,I D])) (cond (decide (N>=0)) (cond (decide (0<=N)&&decide (N<(M.length:Int))) (cond (!(gA (nth [] M N.toNat) 5==gA (nth [] L G.toNat) 2&&(gA (nth [] M N.toNat) 6==gA (nth [] L G.toNat) 3&&(gA (nth [] M N.toNat) 7==gA (nth [] L G.toNat) 4&&true)))) (some (1,[.vC Ah O, .vC kPt T,I 13,I U,I X,I Y,B v10,I v11,I v12,I D])) (some (0,[.vC Ah O, .vC kPt T, .vC Ai M,I G, .vC Ai L,I v5,I (V (G+1)),I U,I X,I Y,B v10,I v11,I v12,I D]))) (none)) (some (0,[.vC Ah O, .vC kPt T, .vC Ai M,I G, .vC Ai L,I v5,I (V (G+1)),I U,I X,I Y,B v10,I v11,I v12,I D]))))) (none)) (some (2,[.vC Ah O, .vC kPt T, .vC Ai M,I U,I X,I Y,B v10,I v11,I v12,I D])):=by kernel_rfl
abbrev QW (U:Fn) (X Y O:Rw) (N v7 v8 v9:Int) (v10:Bool) (v11:Int) (L:AC) (T:Int) (Co:Fn) (v4:Rw) (v5:Int) (M:AC):Option (Nat×List AC):=
 (U [.vC Ah X, .vC kPt Y, .vC Ai O,I N,M,I v7,I v8,I v9,B v10,I v11,L,I T]).bind λD=>
 cond (!bA D 2) (some (1,[.vC Ah (wA D 0), .vC kPt (wA D 1),I 10,jA D 3,jA D 4,jA D 5,B (bA D 6),jA D 7,jA D 8,jA D 9])) ((Co [.vC Ah (wA D 0), .vC kPt (wA D 1), .vC Ai O,I N,jA D 3,jA D 4,jA D 5,B (bA D 6),jA D 7,jA D 8,jA D 9]).bind λG=>
 some (0,[.vC Ah (wA G 0), .vC kPt (wA G 1), .vC Ai O,I N, .vC Ai v4,I v5,I (V (N+1)),jA G 2,jA G 3,jA G 4,B (bA G 5),jA G 6,jA G 7,jA G 8]))
abbrev PT (A3:Fn) (O:Rw) (M T:Int) (Cc:Fn) (N:Rw) (Cs:Fn) (U X:Rw) (Y v8 v9:Int) (v10:Bool) (v11 L:Int) (Co:Fn) (v5:Int) (BD:Fn) (G:AC):Option (Nat×List AC):=
 (A3 [jA (nth [] O M.toNat) 0]).bind λa0=>
 cond (bA a0 0) (cond (decide (T>=0)) ((Cc [.vC Ai N,I T]).bind λa1=>
 cond (!bA a1 0) (QW Cs U X N M Y v8 v9 v10 v11 G L Co O v5 (I (-1))) ((BD [.vC Ai N,I T]).bind λa2=>
 cond (gA a2 0 !=M) (QW Cs U X N M Y v8 v9 v10 v11 G L Co O v5 (I (-1))) (QW Cs U X N M Y v8 v9 v10 v11 G L Co O v5 (I T)))) (QW Cs U X N M Y v8 v9 v10 v11 G L Co O v5 (I T))) ((Co [.vC Ah U, .vC kPt X, .vC Ai N,I M,I Y,I v8,I v9,B v10,I v11,G,I L]).bind λD=>
 some (0,[.vC Ah (wA D 0), .vC kPt (wA D 1), .vC Ai N,I T, .vC Ai O,I v5,I (V (M+1)),jA D 2,jA D 3,jA D 4,B (bA D 5),jA D 6,jA D 7,jA D 8]))
theorem Q6s (X Y BD Cc A3 Eo:Fn) (N6:Lp) (M N v2:Rw) (v3:Int) (L:Rw) (O D T U V:Int) (v10:Bool) (v11 v12 G:Int):PK X Y BD Cc A3 Eo N6 [.vC Ah M, .vC kPt N, .vC Ai v2,I v3, .vC Ai L,I O,I D,I T,I U,I V,B v10,I v11,I v12,I G]=
 cond (decide (D<O)) (cond (decide (0<=D)&&decide (D<(L.length:Int))) (cond (gA (nth [] L D.toNat) 0==8) (cond (gA (nth [] L D.toNat) 19==3) (PT A3 L D v3 Cc v2 Y M N T U V v10 v11 G X O BD (jA (nth [] L D.toNat) 20)) (cond (gA (nth [] L D.toNat) 19==4) (PT A3 L D v3 Cc v2 Y M N T U V v10 v11 G X O BD (jA (nth [] L D.toNat) 20)) (PT A3 L D v3 Cc v2 Y M N T U V v10 v11 G X O BD (I v12)))) (PT A3 L D v3 Cc v2 Y M N T U V v10 v11 G X O BD (I v12))) (none)) (some (2,[.vC Ah M, .vC kPt N,I T,I U,I V,B v10,I v11,I v12,I G])):=by kernel_rfl
theorem Zq5 (O T U V X Y:Fn) (N L:Lp) (M:Rw):Qis O T U V X Y N L [.vC Ai M]=
 cond (decide ((M.length:Int)>20000)) (some [.vC Ah [], .vC kPt [],I 10,I 0,I 0,I 0,B false,I 0,I 0,I 0]) ((N [.vC Ah [], .vC kPt [], .vC Ai M,I (-1), .vC Ai M,I (M.length:Int),I 0,I 0,I 0,I 0,B false,I 0,I 0,I 0]).bind λD=>
 cond (D.1.beq 1) (some [.vC Ah (wA D.2 0), .vC kPt (wA D.2 1),jA D.2 2,jA D.2 3,jA D.2 4,jA D.2 5,B (bA D.2 6),jA D.2 7,jA D.2 8,jA D.2 9]) (cond (D.1.beq 2) ((L [.vC Ah (wA D.2 0), .vC kPt (wA D.2 1), .vC Ai (wA D.2 2),I (-1), .vC Ai (wA D.2 2),I (↑(wA D.2 2).length:Int),I 0,jA D.2 3,jA D.2 4,jA D.2 5,B (bA D.2 6),jA D.2 7,jA D.2 8,jA D.2 9]).bind λG=>
 cond (G.1.beq 1) (some [.vC Ah (wA G.2 0), .vC kPt (wA G.2 1),jA G.2 2,jA G.2 3,jA G.2 4,jA G.2 5,B (bA G.2 6),jA G.2 7,jA G.2 8,jA G.2 9]) (cond (G.1.beq 2) (some [.vC Ah (wA G.2 0), .vC kPt (wA G.2 1),I 0,jA G.2 2,jA G.2 3,jA G.2 4,B (bA G.2 5),jA G.2 6,jA G.2 7,jA G.2 8]) (none))) (none))):=by kernel_rfl
def QU:=Am (Qf I5 Kk Fi Hc DK Ja)
def Za4:=Am (PK I5 Kk Fi Hc DK Ja QU)
def IQ:=Qis I5 Kk Fi Hc DK Ja QU Za4
theorem Qa5:Ak PG (Qat I5 Kk Fi Hc DK Ja):=Ap rfl ⟨Zis,Z8o,Qkn,Qt4,Sz,Yam,trivial⟩
theorem Qzh:An PG (Qq2 IQ):=rw2 (C:=Q3l I5 Kk Fi Hc DK Ja QU Za4) (fl (fl fb Qa5) Qa5) Qa5
def Zj6:=qa 149 Qnm YY
def Qbm (D G:Fn):Cfg:=cp [UO D,Qq2 G] [46]
def Zay:Sk:=⟨[tf [sa Ai],td,td,tf [sd 100800 0],td,tf [ci]]++dd 47,[(100800,102,[ci,ci,ci,se 100800 7,se 100801 3,sb,ci,ci,ci])],[(100800,111,Ah),(100801,130,kPt)]⟩
def Qv0:List (Ex×Sk):=[(Ex.ret,⟨[td,td,tf [ci]]++dd 50,[],[]⟩),(Ex.exit 0,⟨[td,td,td,tf [sd 100800 0]]++dd 49,[(100800,102,[ci,ci,ci,se 100800 7,se 100801 3,sb,ci,ci,ci])],[(100800,111,Ah),(100801,130,kPt)]⟩)]
def Po (D G:Fn):Lp:=A1 PG (Qbm D G) 64 5 (A2 PG 149 5) Zay Qv0
def Q6a (D G:Fn) (I:Lp):Cfg:=(Qbm D G).loop 5 Zay Qv0 I
def Qiy (D G:Fn) (I:Lp):Fn:=Ao PG (Q6a D G I) 64 149 Qnm YY
theorem Q6p (BA Ei:Fn) (M N G:Rw) (D O T U:Int) (X:Bool) (L Y v10:Int):Po BA Ei [.vC Ah M, .vC kPt N, .vC Ai G,I D,I O,I T,I U,B X,I L,I Y,I v10]=
 cond (decide (D>=0)) (cond (decide (0<=D)&&decide (D<(G.length:Int))) (cond (gA (nth [] G D.toNat) 0==10) (some (0,[.vC Ah M, .vC kPt N, .vC Ai G,I (V (D-1)),I O,I T,I U,B X,I L,I Y,I v10])) (cond (decide (0<=D)&&decide (D<(G.length:Int))) ((BA (AT Ai (nth [] G D.toNat))).bind λo4=>
 cond (bA o4 0) (cond (decide (0<=D)&&decide (D<(G.length:Int))) (cond (gA (nth [] G D.toNat) 18 !=0) (some (1,[I v10])) (some (1,[I L]))) (none)) (some (1,[I L]))) (none))) (none)) (some (2,[.vC Ah M, .vC kPt N,I O,I T,I U,B X,I L,I Y,I v10])):=by kernel_rfl
theorem Q7d (N L:Fn) (M:Lp) (G:Rw):Qiy N L M [.vC Ai G]=
 (L [.vC Ai G]).bind λD=>
 cond (gA D 2 !=0) (some [I 0]) ((M [.vC Ah (wA D 0), .vC kPt (wA D 1), .vC Ai G,I (V ((G.length:Int)-1)),jA D 3,jA D 4,jA D 5,B (bA D 6),jA D 7,jA D 8,jA D 9]).bind λo6=>
 cond (o6.1.beq 1) (some [jA o6.2 0]) (cond (o6.1.beq 2) (some [jA o6.2 6]) (none))):=by kernel_rfl
def Q8r:=Am (Po EO IQ)
def Nz:=Qiy EO IQ Q8r
theorem Qta:Ak PG (Qbm EO IQ):=Ap rfl ⟨ST,Qzh,trivial⟩
theorem Ztz:An PG (Zj6 Nz):=rw2 (C:=Q6a EO IQ Q8r) (fl fb Qta) Qta
def Qe2:Sk:=⟨[tf [ci],tf [ci],tf [ci]],[],[]⟩
def Qhp:=qa 190 Qe2 Qne
def Qaf:Fn:=Ao PG Qag 64 190 Qe2 Qne
theorem Zdh (D G L:Int):Qaf [I D,I G,I L]=
 cond (decide (G<=D)) (some [B (decide (D<=L))]) (some [B false]):=by kernel_rfl
def GZ:=Qaf
theorem Qk9:An PG (Qhp GZ):=rw1 (C:=Qag) Zc8
def Z52:=qa 192 Zu Qne
def V9 (D:Fn):Cfg:=cf [Qhp D]
def Qh1 (D:Fn):Fn:=Ao PG (V9 D) 64 192 Zu Qne
theorem Zgw (G:Fn) (N O T U L M V X Y:Int) (x9:Rw) (D:Int):Qh1 G [I N,I O,I T,I U,I L,I M,I V,I X,I Y, .vC Aa x9,I D]=
 (G [I D,I L,I M]).bind λo1=>
 some [B (bA o1 0)]:=by kernel_rfl
def HJ:=Qh1 GZ
theorem Zx7:Ak PG (V9 GZ):=Ap rfl ⟨Qk9,trivial⟩
theorem Zuf:An PG (Z52 HJ):=rw1 (C:=V9 GZ) Zx7
def Qgn:Sk:=⟨[TS.v true (cc 9++[sa Aa]++cc 9++[sa Aa]++cc 9++[sa Aa]),TS.v true [ci,ci,ci,sa Ah,sa kPt]],[],[]⟩
def Zeo:=qa 148 Qgn Qne
def Qnz (D:Fn):Cfg:={cf [Z52 D]with rowDst:=[13],unroll:=[11]}
def Qzp:Sk:=⟨[td,td,tf [sd 2 0],td,td,tf [se 13 3]]++dd 9++[tf [sa Ah],tf [ci],tf [ci]]++dd 28,[(2,34,cc 9++[sa Aa]++cc 9++[sa Aa]++cc 9++[sa Aa])],[(13,42,kPt)]⟩
def Q4i:List (Ex×Sk):=[(Ex.exit 0,⟨[td,td,tf [sd 2 0],td,td,tf [se 13 3]]++dd 40,[(2,34,cc 9++[sa Aa]++cc 9++[sa Aa]++cc 9++[sa Aa])],[(13,42,kPt)]⟩)]
def Qg (D:Fn):Lp:=A1 PG (Qnz D) 64 3 (A2 PG 148 3) Qzp Q4i
def Qvv (D:Fn) (G:Lp):Cfg:=(Qnz D).loop 3 Qzp Q4i G
def Q59:Sk:=⟨[td,td,tf [sd 2 0]]++dd 24++[tf [se 13 3],tf [ci],tf [ci]]++dd 16,[(2,34,cc 9++[sa Aa]++cc 9++[sa Aa]++cc 9++[sa Aa])],[(13,42,kPt)]⟩
def Q1n:List (Ex×Sk):=[(Ex.ret,⟨[td,td,td,td,tf [sb]]++dd 41,[],[]⟩),(Ex.exit 2,⟨[td]++dd 45,[],[]⟩)]
def UC (D:Fn) (G:Lp):Lp:=A1 PG (Qvv D G) 64 8 (A2 PG 148 8) Q59 Q1n
def Q51 (D:Fn) (G I:Lp):Cfg:=(Qvv D G).loop 8 Q59 Q1n I
def Y1 (D:Fn) (G I:Lp):Fn:=Ao PG (Q51 D G I) 64 148 Qgn Qne
theorem Zs6 (D0:Fn) (v0 G:Rw) (v2 D v4 v5 v6 v7 v8 v9 v10 v11 v12:Int) (L:Rw) (M N O T U X v20 v21 v22:Int) (Y:Rw) (v24 v25 a0 v27 v28 a1 v30 v31 a2:Int) (v33:Rw):Qg D0 [.vC kPt v0, .vC Ah G,I v2,I D,I v4,I v5,I v6,I v7,I v8,I v9,I v10,I v11,I v12, .vC Aa L,I M,I N,I O,I T,I U,I X,I v20,I v21,I v22, .vC Aa Y,I v24,I v25,I a0,I v27,I v28,I a1,I v30,I v31,I a2, .vC Aa v33]=
 cond (decide (D<v2)) (cond (decide (0<=D)&&decide (D<(G.length:Int))) (cond (((v0++[[jA (nth [] G D.toNat) 0,jA (nth [] G D.toNat) 1,jA (nth [] G D.toNat) 2]]).length*24).ble 140737488355328) (some (0,[.vC kPt (v0++[[jA (nth [] G D.toNat) 0,jA (nth [] G D.toNat) 1,jA (nth [] G D.toNat) 2]]), .vC Ah G,I v2,I (V (D+1)),I v4,I v5,I v6,I v7,I v8,I v9,I v10,I v11,I v12, .vC Aa L,I M,I N,I O,I T,I U,I X,I v20,I v21,I v22, .vC Aa Y,I v24,I v25,I a0,I v27,I v28,I a1,I v30,I v31,I a2, .vC Aa v33])) (none)) (none)) (some (1,[.vC kPt v0,I v4,I v5,I v6,I v7,I v8,I v9,I v10,I v11,I v12, .vC Aa L,I M,I N,I O,I T,I U,I X,I v20,I v21,I v22, .vC Aa Y,I v24,I v25,I a0,I v27,I v28,I a1,I v30,I v31,I a2, .vC Aa v33])):=by kernel_rfl
theorem Zwi (D0:Fn) (N3:Lp) (v0:Rw) (v1 D v3 v4 v5 v6 v7 v8 v9 v10 v11:Int) (v12:Rw) (G L M N O T U v20 v21:Int) (v22:Rw) (X v24 v25 Y v27 v28 a0 v30 v31:Int) (a1:Rw):UC D0 N3 [.vC kPt v0,I v1,I D,I v3,I v4,I v5,I v6,I v7,I v8,I v9,I v10,I v11, .vC Aa v12,I G,I L,I M,I N,I O,I T,I U,I v20,I v21, .vC Aa v22,I X,I v24,I v25,I Y,I v27,I v28,I a0,I v30,I v31, .vC Aa a1]=
 cond (decide (D<v1)) (cond (decide (0<=D)&&decide (D<(v0.length:Int))) ((D0 [I v3,I v4,I v5,I v6,I v7,I v8,I v9,I v10,I v11, .vC Aa v12,jA (nth [] v0 D.toNat) 0]).bind λo6=>
 cond (!bA o6 0) (some (1,[B false])) ((D0 [I G,I L,I M,I N,I O,I T,I U,I v20,I v21, .vC Aa v22,jA (nth [] v0 D.toNat) 1]).bind λo7=>
 cond (!bA o7 0) (some (1,[B false])) ((D0 [I X,I v24,I v25,I Y,I v27,I v28,I a0,I v30,I v31, .vC Aa a1,jA (nth [] v0 D.toNat) 2]).bind λo8=>
 cond (!bA o8 0) (some (1,[B false])) (some (0,[.vC kPt v0,I v1,I (V (D+1)),I v3,I v4,I v5,I v6,I v7,I v8,I v9,I v10,I v11, .vC Aa v12,I G,I L,I M,I N,I O,I T,I U,I v20,I v21, .vC Aa v22,I X,I v24,I v25,I Y,I v27,I v28,I a0,I v30,I v31, .vC Aa a1]))))) (none)) (some (2,[])):=by kernel_rfl
theorem Zsb (D0:Fn) (N3 N8:Lp) (x0 x1 x2 x3 x4 x5 x6 x7 x8:Int) (x9:Rw) (M N O T U V X Y a0:Int) (a1:Rw) (a2 a3 a4 a5 a6 a7 a8 a9 b0:Int) (b1:Rw) (b2 b3 b4:Int) (G b5:Rw):Y1 D0 N3 N8 [I x0,I x1,I x2,I x3,I x4,I x5,I x6,I x7,I x8, .vC Aa x9,I M,I N,I O,I T,I U,I V,I X,I Y,I a0, .vC Aa a1,I a2,I a3,I a4,I a5,I a6,I a7,I a8,I a9,I b0, .vC Aa b1,I b2,I b3,I b4, .vC Ah G, .vC kPt b5]=
 (N3 [.vC kPt [[I b2,I b3,I b4]], .vC Ah G,I (G.length:Int),I 0,I x0,I x1,I x2,I x3,I x4,I x5,I x6,I x7,I x8, .vC Aa x9,I M,I N,I O,I T,I U,I V,I X,I Y,I a0, .vC Aa a1,I a2,I a3,I a4,I a5,I a6,I a7,I a8,I a9,I b0, .vC Aa b1]).bind λD=>
 cond (D.1.beq 1) ((N8 [.vC kPt (wA D.2 0),I (↑(wA D.2 0).length:Int),I 0,jA D.2 1,jA D.2 2,jA D.2 3,jA D.2 4,jA D.2 5,jA D.2 6,jA D.2 7,jA D.2 8,jA D.2 9, .vC Aa (wA D.2 10),jA D.2 11,jA D.2 12,jA D.2 13,jA D.2 14,jA D.2 15,jA D.2 16,jA D.2 17,jA D.2 18,jA D.2 19, .vC Aa (wA D.2 20),jA D.2 21,jA D.2 22,jA D.2 23,jA D.2 24,jA D.2 25,jA D.2 26,jA D.2 27,jA D.2 28,jA D.2 29, .vC Aa (wA D.2 30)]).bind λL=>
 cond (L.1.beq 1) (some [B (bA L.2 0)]) (cond (L.1.beq 2) (some [B true]) (none))) (none):=by kernel_rfl
def Qf0:=Am (Qg HJ)
def Q1o:=Am (UC HJ Qf0)
def PU:=Y1 HJ Qf0 Q1o
theorem Qen:Ak PG (Qnz HJ):=Ap rfl ⟨Zuf,trivial⟩
theorem Z3c:An PG (Zeo PU):=rw2 (C:=Q51 HJ Qf0 Q1o) (fl (fl fb Qen) Qen) Qen
def Qmt:Sk:=⟨[TS.tup [(true,[ci,ci,ci,sa Ah,sa kPt]),(false,[ci])]],[],[]⟩
def Qpd:=qa 15 Qnm Qmt
def Qdm (D:Fn):Cfg:=cp [Qq2 D] [46]
def Qgg (D:Fn):Fn:=Ao PG (Qdm D) 64 15 Qnm Qmt
theorem Ztt (D:Fn) (G:Rw):Qgg D [.vC Ai G]=
 (D [.vC Ai G]).bind λo1=>
 cond (gA o1 2 !=0) (some [I 0,I 0,I 0, .vC Ah [], .vC kPt [],jA o1 2]) (some [jA o1 3,jA o1 4,jA o1 5, .vC Ah (wA o1 0), .vC kPt (wA o1 1),I 0]):=by kernel_rfl
def H4:=Qgg IQ
theorem Zut:Ak PG (Qdm IQ):=Ap rfl ⟨Qzh,trivial⟩
theorem Qu6:An PG (Qpd H4):=rw1 (C:=Qdm IQ) Zut
def Qju:Sk:=⟨[tf [sd 20000 0],tf [sa Ai],tf [sb]],[(20000,179,cS)],[]⟩
def Zpe:=qa 97 Qju Qjt
def Qdf (D G I L:Fn):Cfg:={cf [Zj6 D,Qlb G,Zeo I,Qpd L]with fstore:=true}
def Qq (D G I L:Fn):Fn:=Ao PG (Qdf D G I L) 64 97 Qju Qjt
theorem Zfw (G L M N:Fn) (D:Rw) (O:Bool) (K:Kf) (c:Cv):Qq G L M N (.vC Ai D::B O::Ae K c)=
 (N [.vC Ai D]).bind λo4=>
 cond (gA o4 5 !=0) (some (jA o4 5::Ae K c)) ((M (AG K.x++[jA o4 0,jA o4 1,jA o4 2, .vC Ah (wA o4 3), .vC kPt (wA o4 4)])).bind λT=>
 cond (!bA T 0) (some (I 17::Ae K c)) (cond ((D.length*176).ble 140737488355328) ((L [jA o4 0,jA o4 1,jA o4 2, .vC Ah (wA o4 3), .vC kPt (wA o4 4)]).bind λo6=>
 (G [.vC Ai D]).bind λU=>
 some (I 0::EV (Ae K c) [(35, .vC Ai D),(36,B O),(37,jA o4 0),(38,jA o4 1),(39,jA o4 2),(40, .vC Ah (wA o4 3)),(41, .vC kPt (wA o4 4)),(42,jA o6 0),(43,jA U 0)])) (none))):=by kernel_rfl
def Ty:=Qq Nz Hi PU H4
theorem Zk5:Ak PG (Qdf Nz Hi PU H4):=Ap rfl ⟨Ztz,Qh4,Z3c,Qu6,trivial⟩
theorem Zqc:An PG (Zpe Ty):=rw1 (C:=Qdf Nz Hi PU H4) Zk5
def Vs:Sk:=⟨[TS.v true [ci,ci,sb,sb,sb]],[],[]⟩
def Zu7:=qa 95 Zf Vs
def Qeh:Fn:=Ao PG Qag 64 95 Zf Vs
theorem Z21:Qeh []=
 some [I 100,I 100,B false,B false,B false]:=by kernel_rfl
def P_:=Qeh
theorem Zyk:An PG (Zu7 P_):=rw1 (C:=Qag) Zc8
def Wi:Sk:=⟨[TS.v true (cc 9++[sa Aa]++cc 9++[sa Aa]++cc 9++[sa Aa]++cc 5)],[],[]⟩
def Zlb:=qa 94 Wi Wi
def XD:Cfg:={cf []with fstore:=true,unroll:=[2]}
def Z7:Fn:=Ao PG XD 64 94 Wi Wi
theorem Zb5 (x0 x1 x2 x3 x4 x5 x6 x7 x8:Int) (x9:Rw) (L M N O T U V X Y:Int) (D:Rw) (a0 a1 a2 a3 a4 a5 a6 a7 a8:Int) (G:Rw) (a9 b0 b1 b2 b3:Int):Z7 [I x0,I x1,I x2,I x3,I x4,I x5,I x6,I x7,I x8, .vC Aa x9,I L,I M,I N,I O,I T,I U,I V,I X,I Y, .vC Aa D,I a0,I a1,I a2,I a3,I a4,I a5,I a6,I a7,I a8, .vC Aa G,I a9,I b0,I b1,I b2,I b3]=
 cond ((x9.length*8).ble 140737488355328) (cond ((D.length*8).ble 140737488355328) (cond ((G.length*8).ble 140737488355328) (some [I x0,I x1,I x2,I x3,I x4,I x5,I x6,I x7,I x8, .vC Aa x9,I L,I M,I N,I O,I T,I U,I V,I X,I Y, .vC Aa D,I a0,I a1,I a2,I a3,I a4,I a5,I a6,I a7,I a8, .vC Aa G,I a9,I b0,I b1,I b2,I b3]) (none)) (none)) (none):=by kernel_rfl
def Qc:=Z7
theorem Z1m:Ak PG (XD):=Ap rfl trivial
theorem Zgl:An PG (Zlb Qc):=rw1 (C:=XD) Z1m
def Qf3:Sk:=⟨[TS.v true (cc 9++[sa Aa])],[],[]⟩
def Zh5:=qa 191 Qf3 Qne
def Qkt (D:Fn):Cfg:=cf [Qhp D]
def Q5y:Sk:=⟨[td,tf [sd 1 0]]++dd 24++[tf [sa Aa],tf [ci],tf [ci]]++dd 29,[(1,33,cc 9++[sa Aa])],[]⟩
def Q4v:List (Ex×Sk):=[(Ex.ret,⟨[td,td,tf [sb]]++dd 55,[],[]⟩),(Ex.exit 0,⟨[td]++dd 57,[],[]⟩)]
def Zm (D:Fn):Lp:=A1 PG (Qkt D) 64 6 (A2 PG 191 6) Q5y Q4v
def Qyc (D:Fn) (G:Lp):Cfg:=(Qkt D).loop 6 Q5y Q4v G
def Y5 (D:Fn) (G:Lp):Fn:=Ao PG (Qyc D G) 64 191 Qf3 Qne
theorem Zmt (M:Fn) (G:Rw) (L D N O T U X Y v9 v10 v11:Int) (v12:Rw):Zm M [.vC Aa G,I L,I D,I N,I O,I T,I U,I X,I Y,I v9,I v10,I v11, .vC Aa v12]=
 cond (decide (D<L)) (cond (decide (0<=D)&&decide (D<(G.length:Int))) ((M [jA (nth [] G D.toNat) 0,I (-4096),I 4096]).bind λo7=>
 cond (!bA o7 0) (some (1,[B false])) (cond (decide (D>0)) (cond (decide (0<=V (D-1))&&decide (V (D-1)<(v12.length:Int))) ((M [I (V (gA (nth [] G D.toNat) 0-gA (nth [] v12 (V (D-1)).toNat) 0)),I (V (0-V (v11.tdiv 4))),I (V (v11.tdiv 4))]).bind λo8=>
 cond (!bA o8 0) (some (1,[B false])) (some (0,[.vC Aa G,I L,I (V (D+1)),I N,I O,I T,I U,I X,I Y,I v9,I v10,I v11, .vC Aa v12]))) (none)) (some (0,[.vC Aa G,I L,I (V (D+1)),I N,I O,I T,I U,I X,I Y,I v9,I v10,I v11, .vC Aa v12])))) (none)) (some (2,[])):=by kernel_rfl
theorem Zjf (L:Fn) (T:Lp) (U V X Y x4 x5 x6 M N:Int) (G:Rw):Y5 L T [I U,I V,I X,I Y,I x4,I x5,I x6,I M,I N, .vC Aa G]=
 cond ((G.length:Int)==0) (some [B true]) (cond (decide ((G.length:Int)>64)) (some [B false]) ((L [I M,I (-16777216),I 16777216]).bind λo9=>
 cond (!bA o9 0) (some [B false]) ((L [I N,I 4,I 16777216]).bind λO=>
 cond (!bA O 0) (some [B false]) ((T [.vC Aa G,I (G.length:Int),I 0,I U,I V,I X,I Y,I x4,I x5,I x6,I M,I N, .vC Aa G]).bind λD=>
 cond (D.1.beq 1) (some [B (bA D.2 0)]) (cond (D.1.beq 2) (some [B true]) (none)))))):=by kernel_rfl
def Qrs:=Am (Zm GZ)
def Qi:=Y5 GZ Qrs
theorem Q9t:Ak PG (Qkt GZ):=Ap rfl ⟨Qk9,trivial⟩
theorem Zo4:An PG (Zh5 Qi):=rw2 (C:=Qyc GZ Qrs) (fl fb Q9t) Q9t
def Z9z:=qa 145 Qf3 Qne
def Qmx (D G:Fn):Cfg:=cf [Zh5 D,Qhp G]
def Qc4 (D G:Fn):Fn:=Ao PG (Qmx D G) 64 145 Qf3 Qne
theorem Z70 (Pm L:Fn) (M N O T D G U x7 x8:Int) (x9:Rw):Qc4 Pm L [I M,I N,I O,I T,I D,I G,I U,I x7,I x8, .vC Aa x9]=
 (L [I M,I 4,I 4096]).bind λo6=>
 cond (bA o6 0) ((L [I N,I 1,I 1048576]).bind λo7=>
 cond (bA o7 0) ((L [I O,I 2,I 1048576]).bind λo8=>
 cond (bA o8 0) ((L [I T,I 4,I 1048576]).bind λV=>
 cond (decide (D>= -16777216)) (cond (decide (G<=16777216)) (cond (bA V 0) (cond (decide (D<=G)) ((L [I U,I 0,I 64]).bind λX=>
 cond (bA X 0) ((Pm [I M,I N,I O,I T,I D,I G,I U,I x7,I x8, .vC Aa x9]).bind λY=>
 some [B (bA Y 0)]) (some [B false])) (some [B false])) (some [B false])) (cond (bA V 0) (some [B false]) (some [B false]))) (cond (bA V 0) (some [B false]) (some [B false]))) (cond (decide (D>= -16777216)) (cond (decide (G<=16777216)) (some [B false]) (some [B false])) (some [B false]))) (cond (decide (D>= -16777216)) (cond (decide (G<=16777216)) (some [B false]) (some [B false])) (some [B false]))) (cond (decide (D>= -16777216)) (cond (decide (G<=16777216)) (some [B false]) (some [B false])) (some [B false])):=by kernel_rfl
def Qu:=Qc4 Qi GZ
theorem Zpl:Ak PG (Qmx Qi GZ):=Ap rfl ⟨Zo4,Qk9,trivial⟩
theorem Z0r:An PG (Z9z Qu):=rw1 (C:=Qmx Qi GZ) Zpl
def Z3l:=qa 93 Wi Qne
def YO (D G I:Fn):Cfg:={cf [Qfd D,X9 G,Z9z I]with unroll:=[2]}
def Wf (D G I:Fn):Fn:=Ao PG (YO D G I) 64 93 Wi Qne
theorem Zyv (FV B7 Kg:Fn) (x0 x1 x2 x3 x4 x5 x6 x7 x8:Int) (x9:Rw) (L M N O T U V X Y:Int) (a0:Rw) (a1 a2 a3 a4 a5 a6 a7 a8 a9:Int) (b0:Rw) (b1 b2 b3 D G:Int):Wf FV B7 Kg [I x0,I x1,I x2,I x3,I x4,I x5,I x6,I x7,I x8, .vC Aa x9,I L,I M,I N,I O,I T,I U,I V,I X,I Y, .vC Aa a0,I a1,I a2,I a3,I a4,I a5,I a6,I a7,I a8,I a9, .vC Aa b0,I b1,I b2,I b3,I D,I G]=
 (Kg [I x0,I x1,I x2,I x3,I x4,I x5,I x6,I x7,I x8, .vC Aa x9]).bind λo5=>
 cond (!bA o5 0) (some [B false]) ((Kg [I L,I M,I N,I O,I T,I U,I V,I X,I Y, .vC Aa a0]).bind λo6=>
 cond (!bA o6 0) (some [B false]) ((Kg [I a1,I a2,I a3,I a4,I a5,I a6,I a7,I a8,I a9, .vC Aa b0]).bind λo7=>
 cond (!bA o7 0) (some [B false]) ((B7 [I b1,I b2,I b3]).bind λo8=>
 cond (bA o8 0) (cond (decide (D>=1)) ((FV [I 30000]).bind λo9=>
 cond (decide (D<=gA o9 0)) (cond (decide (G>=0)) (some [B (decide (G<=1048576))]) (some [B false])) (some [B false])) (some [B false])) (some [B false])))):=by kernel_rfl
def Q7:=Wf HP EZ Qu
theorem Zgk:Ak PG (YO HP EZ Qu):=Ap rfl ⟨Qij,Qmi,Z0r,trivial⟩
theorem Zfj:An PG (Z3l Q7):=rw1 (C:=YO HP EZ Qu) Zgk
def Qgh:Sk:=⟨[TS.v true (cc 9++[sa Aa]++cc 9++[sa Aa]++cc 9++[sa Aa]++cc 5),tf [sa Ai],tf [sb]],[],[]⟩
def VO:Sk:=⟨[TS.tup [(false,[sd 19 0]),(false,[ci])]],[(19,179,cS)],[]⟩
def Zoc:=qa 54 Qgh VO
def Qdh (D G I L M N O:Fn):Cfg:={cp [Q35 D,Qsg G,Zpe I,Zc4 L,Zu7 M,Zlb N,Z3l O] [97]with fstore:=true}
def SE (D G I L M N O:Fn):Fn:=Ao PG (Qdh D G I L M N O) 64 54 Qgh VO
theorem Zcp (FY F2 Pj Ol Pb Pf OS:Fn) (x0 x1 x2 x3 x4 x5 x6 x7 x8:Int) (x9:Rw) (M N O T U V X Y a0:Int) (a1:Rw) (a2 a3 a4 a5 a6 a7 a8 a9 b0:Int) (b1:Rw) (b2 b3 b4 b5 b6:Int) (b8:Rw) (b9:Bool):SE FY F2 Pj Ol Pb Pf OS [I x0,I x1,I x2,I x3,I x4,I x5,I x6,I x7,I x8, .vC Aa x9,I M,I N,I O,I T,I U,I V,I X,I Y,I a0, .vC Aa a1,I a2,I a3,I a4,I a5,I a6,I a7,I a8,I a9,I b0, .vC Aa b1,I b2,I b3,I b4,I b5,I b6, .vC Ai b8,B b9]=
 (OS [I x0,I x1,I x2,I x3,I x4,I x5,I x6,I x7,I x8, .vC Aa x9,I M,I N,I O,I T,I U,I V,I X,I Y,I a0, .vC Aa a1,I a2,I a3,I a4,I a5,I a6,I a7,I a8,I a9,I b0, .vC Aa b1,I b2,I b3,I b4,I b5,I b6]).bind λo7=>
 cond (!bA o7 0) (none) ((Pf [I x0,I x1,I x2,I x3,I x4,I x5,I x6,I x7,I x8, .vC Aa x9,I M,I N,I O,I T,I U,I V,I X,I Y,I a0, .vC Aa a1,I a2,I a3,I a4,I a5,I a6,I a7,I a8,I a9,I b0, .vC Aa b1,I b2,I b3,I b4,I b5,I b6]).bind λo8=>
 (Pb []).bind λo9=>
 (Ol []).bind λb7=>
 (Pj [.vC Ai b8,B b9,jA o8 0,jA o8 1,jA o8 2,jA o8 3,jA o8 4,jA o8 5,jA o8 6,jA o8 7,jA o8 8, .vC Aa (wA o8 9),jA o8 10,jA o8 11,jA o8 12,jA o8 13,jA o8 14,jA o8 15,jA o8 16,jA o8 17,jA o8 18, .vC Aa (wA o8 19),jA o8 20,jA o8 21,jA o8 22,jA o8 23,jA o8 24,jA o8 25,jA o8 26,jA o8 27,jA o8 28, .vC Aa (wA o8 29),jA o8 30,jA o8 31,jA o8 32,jA o8 33,jA o8 34, .vC Ai [],B false,I 0,I 0,I 0, .vC Ah [], .vC kPt [],I 0,I 0, .vC Au [],I 0,I 0,I 0,I 0,I 0,I 0,I 0,I 0,I 0,I 0,I 0,jA o9 0,jA o9 1,B (bA o9 2),B (bA o9 3),B (bA o9 4),jA b7 0,jA b7 1,jA b7 2,I 1,I 0,I 0,I 0,I 0,I 0,I 0,I 0,I 0,B false,I 0,B false,I 0,B false,I 0,I (-1),I 0,I 0,I 0,I 0,I 0,I 0,I 0,B false,B false,B false]).bind λD=>
 cond (gA D 0 !=0) (none) ((F2 [jA D 38,jA D 39,jA D 40, .vC Ah (wA D 41), .vC kPt (wA D 42),jA D 1,jA D 2,jA D 3,jA D 4,jA D 5,jA D 6,jA D 7,jA D 8,jA D 9, .vC Aa (wA D 10),jA D 11,jA D 12,jA D 13,jA D 14,jA D 15,jA D 16,jA D 17,jA D 18,jA D 19, .vC Aa (wA D 20),jA D 21,jA D 22,jA D 23,jA D 24,jA D 25,jA D 26,jA D 27,jA D 28,jA D 29, .vC Aa (wA D 30),I 1,I 1,I 1,I 0,jA D 43]).bind λG=>
 (FY [I 0]).bind λL=>
 some (I 0::EV (cR 1 D) [(44, .vC Au (wA G 0)),(45,jA G 1),(46,jA G 2),(47,jA G 3),(48,jA G 4),(49,jA G 5),(50,jA L 0),(51,jA L 1),(52,jA L 2),(53,jA L 3),(54,jA L 4),(55,jA L 5)]))):=by kernel_rfl
def IT:=SE Jq JK Ty PS P_ Qc Q7
theorem Zi3:Ak PG (Qdh Jq JK Ty PS P_ Qc Q7):=Ap rfl ⟨Qqe,Qpy,Zqc,Zlk,Zyk,Zgl,Zfj,trivial⟩
theorem Z6w:An PG (Zoc IT):=rw1 (C:=Qdh Jq JK Ty PS P_ Qc Q7) Zi3
def Zfv:=qa 53 ZF Qne
def Q8e:Sk:=⟨[td,td,td,tf [ci],td,td,td,td,td,tf [sa kPt],tf [ci],tf [ci]]++dd 35,[],[]⟩
def Qra:List (Ex×Sk):=[(Ex.ret,⟨[td,td,tf [sb]]++dd 44,[],[]⟩),(Ex.exit 0,⟨[td]++dd 46,[],[]⟩)]
def Nd:Lp:=A1 PG Qag 64 5 (A2 PG 53 5) Q8e Qra
def Q7p (D:Lp):Cfg:=Qag.loop 5 Q8e Qra D
def Qkm (D:Lp):Fn:=Ao PG (Q7p D) 64 53 ZF Qne
theorem Q9w (M:Int) (G:Rw) (L D:Int):Nd [I M, .vC kPt G,I L,I D]=
 cond (decide (D<L)) (cond (decide (0<=D)&&decide (D<(G.length:Int))) (cond (decide (gA (nth [] G D.toNat) 0<M)) (some (1,[B false])) (cond (decide (gA (nth [] G D.toNat) 0>1073741824)) (some (1,[B false])) (cond (decide (gA (nth [] G D.toNat) 1<1)) (some (1,[B false])) (cond (decide (gA (nth [] G D.toNat) 1>13)) (some (1,[B false])) (cond (decide (gA (nth [] G D.toNat) 2< -1073741824)) (some (1,[B false])) (cond (decide (gA (nth [] G D.toNat) 2>1073741824)) (some (1,[B false])) (some (0,[jA (nth [] G D.toNat) 0, .vC kPt G,I L,I (V (D+1))])))))))) (none)) (some (2,[])):=by kernel_rfl
theorem Zv9 (G:Lp) (D:Rw):Qkm G [.vC kPt D]=
 cond (decide ((D.length:Int)>2000)) (some [B false]) ((G [I 0, .vC kPt D,I (D.length:Int),I 0]).bind λo1=>
 cond (o1.1.beq 1) (some [B (bA o1.2 0)]) (cond (o1.1.beq 2) (some [B true]) (none))):=by kernel_rfl
def Q0j:=Am (Nd)
def OZ:=Qkm Q0j
theorem Z11:An PG (Zfv OZ):=rw2 (C:=Q7p Q0j) (fl fb Zc8) Zc8
def VJ:Sk:=⟨[TS.v true (cc 9++[sa Aa]++cc 9++[sa Aa]++cc 9++[sa Aa]++cc 5),tf [sa Ai],tf [sa kPt],tf [ci]],[],[]⟩
def Qj8:Sk:=⟨[TS.tup [(false,[sa [Kd.sl kPt,Kd.sl Aa,kI,kI,kI,kI,kI,kI,kI]]),(false,[ci])]],[],[]⟩
def Q2v:=qa 18 VJ Qj8
def ZQ (D Hd G I:Fn):Cfg:={cp [Yai D,Zqd Hd,Zoc G,Zfv I] [55,54]with prom:=λb=>cond (Nat.beq b 8) ([(12,61)]) ([])}
def Q92:Sk:=⟨[td,td,tf [sa kPt],tf [ci]]++dd 6++[tf [sd 102500 0],td,tf [se 12 9],tf [ci]]++dd 40,[(102500,179,cS)],[(12,61,[Kd.sl kPt,Kd.sl Aa,kI,kI,kI,kI,kI,kI,kI])]⟩
def Qv7:List (Ex×Sk):=[(Ex.exit 0,⟨dd 12++[tf [se 12 9]]++dd 41,[],[(12,61,[Kd.sl kPt,Kd.sl Aa,kI,kI,kI,kI,kI,kI,kI])]⟩)]
def OM (D Hd G I:Fn):Lp:=A1 PG (ZQ D Hd G I) 64 8 (A2 PG 18 8) Q92 Qv7
def Zao (D Hd G I:Fn) (L:Lp):Cfg:=(ZQ D Hd G I).loop 8 Q92 Qv7 L
def Qhq (D Hd G I:Fn) (L:Lp):Fn:=Ao PG (Zao D Hd G I L) 64 18 VJ Qj8
theorem Q52 (T Hd U X:Fn) (G M:Rw) (N L:Int) (K:Kf) (c:Cv):OM T Hd U X (.vC [Kd.sl kPt,Kd.sl Aa,kI,kI,kI,kI,kI,kI,kI] G:: .vC kPt M::I N::I L::Ae K c)=
 cond (decide (L<N)) ((Hd [.vC kPt M,I L]).bind λO=>
 (T (.vC kPt (wA O 0)::Ae K c)).bind λD=>
 cond (((G++[[.vC (Aa++(Aa++(Aa++[]))) (wA D 0), .vC Aa (wA D 1),jA D 2,jA D 3,jA D 4,jA D 5,jA D 6,jA D 7,jA D 8]]).length*104).ble 140737488355328) (cond (gA D 2==7) (some (1,[.vC [Kd.sl kPt,Kd.sl Aa,kI,kI,kI,kI,kI,kI,kI] (G++[[.vC (Aa++(Aa++(Aa++[]))) (wA D 0), .vC Aa (wA D 1),jA D 2,jA D 3,jA D 4,jA D 5,jA D 6,jA D 7,jA D 8]])])) (cond (gA D 2==8) (some (1,[.vC [Kd.sl kPt,Kd.sl Aa,kI,kI,kI,kI,kI,kI,kI] (G++[[.vC (Aa++(Aa++(Aa++[]))) (wA D 0), .vC Aa (wA D 1),jA D 2,jA D 3,jA D 4,jA D 5,jA D 6,jA D 7,jA D 8]])])) (some (0,(.vC [Kd.sl kPt,Kd.sl Aa,kI,kI,kI,kI,kI,kI,kI] (G++[[.vC (Aa++(Aa++(Aa++[]))) (wA D 0), .vC Aa (wA D 1),jA D 2,jA D 3,jA D 4,jA D 5,jA D 6,jA D 7,jA D 8]]):: .vC kPt M::I N::I (V (L+1))::cR 9 D))))) (none)) (some (1,[.vC [Kd.sl kPt,Kd.sl Aa,kI,kI,kI,kI,kI,kI,kI] G])):=by kernel_rfl
theorem Zog (Hj Hd GW G4:Fn) (N8:Lp) (x0 x1 x2 x3 x4 x5 x6 x7 x8:Int) (x9:Rw) (M N O T U V X Y a0:Int) (a1:Rw) (a2 a3 a4 a5 a6 a7 a8 a9 b0:Int) (b1:Rw) (b2 b3 b4 b5 b6:Int) (b7 D:Rw) (G:Int):Qhq Hj Hd GW G4 N8 [I x0,I x1,I x2,I x3,I x4,I x5,I x6,I x7,I x8, .vC Aa x9,I M,I N,I O,I T,I U,I V,I X,I Y,I a0, .vC Aa a1,I a2,I a3,I a4,I a5,I a6,I a7,I a8,I a9,I b0, .vC Aa b1,I b2,I b3,I b4,I b5,I b6, .vC Ai b7, .vC kPt D,I G]=
 (G4 [.vC kPt D]).bind λb9=>
 cond (!bA b9 0) (some [.vC [Kd.sl kPt,Kd.sl Aa,kI,kI,kI,kI,kI,kI,kI] [],I 1]) (cond (decide (G>1073741824)) (some [.vC [Kd.sl kPt,Kd.sl Aa,kI,kI,kI,kI,kI,kI,kI] [],I 1]) ((GW [I x0,I x1,I x2,I x3,I x4,I x5,I x6,I x7,I x8, .vC Aa x9,I M,I N,I O,I T,I U,I V,I X,I Y,I a0, .vC Aa a1,I a2,I a3,I a4,I a5,I a6,I a7,I a8,I a9,I b0, .vC Aa b1,I b2,I b3,I b4,I b5,I b6, .vC Ai b7,B true]).bind λL=>
 cond (gA L 0 !=0) (some [.vC [Kd.sl kPt,Kd.sl Aa,kI,kI,kI,kI,kI,kI,kI] [],jA L 0]) ((N8 (.vC [Kd.sl kPt,Kd.sl Aa,kI,kI,kI,kI,kI,kI,kI] []:: .vC kPt D::I G::I 0::cR 1 L)).bind λb8=>
 cond (b8.1.beq 1) (some [.vC [Kd.sl kPt,Kd.sl Aa,kI,kI,kI,kI,kI,kI,kI] (wA b8.2 0),I 0]) (none)))):=by kernel_rfl
def Q44:=Am (OM JY O8 IT OZ)
def KT:=Qhq JY O8 IT OZ Q44
theorem Qz5:Ak PG (ZQ JY O8 IT OZ):=Ap rfl ⟨Z0o,Zwa,Z6w,Z11,trivial⟩
theorem Qrk:An PG (Q2v KT):=rw2 (C:=Zao JY O8 IT OZ Q44) (fl fb Qz5) Qz5
def Qu9:=qa 12 YD YY
def Qql:Fn:=Ao PG Qag 64 12 YD YY
theorem Zru (G D:Int):Qql [I G,I D]=
 cond (decide (D=0)) (none) (cond (decide (D=0)) (none) (some [I ((V (G.tmod D+D)).tmod D)])):=by kernel_rfl
def IV:=Qql
theorem Qrf:An PG (Qu9 IV):=rw1 (C:=Qag) Zc8
def V1:Sk:=⟨[tf [sd 20000 0],tf [ci]],[(20000,95,[sa Aa,ci])],[]⟩
def Qoy:Sk:=⟨[tf [ci]],[(20000,95,[sa Aa,ci])],[]⟩
def Pc:=qa 41 V1 Qoy
def Qdo (D:Fn):Cfg:=cf [Qu9 D]
def Qlu (D:Fn):Fn:=Ao PG (Qdo D) 64 41 V1 Qoy
theorem Zwh (L:Fn) (M:Int) (G:Rw) (D:Int):Qlu L [I M, .vC Aa G,I D]=
 cond (decide (D>=(G.length:Int))) (some [I 0, .vC Aa G,I D]) (cond (decide (0<=D)&&decide (D<(G.length:Int))) ((L [jA (nth [] G D.toNat) 0,I M]).bind λo1=>
 some [jA o1 0, .vC Aa G,I (V (D+1))]) (none)):=by kernel_rfl
def Da:=Qlu IV
theorem Zhz:Ak PG (Qdo IV):=Ap rfl ⟨Qrf,trivial⟩
theorem NA:An PG (Pc Da):=rw1 (C:=Qdo IV) Zhz
def Qi6:Sk:=⟨[tf [sd 5 0]],[(5,95,[sa Aa,ci])],[]⟩
def Uf:=qa 40 Qez Qi6
def Q5s:Fn:=Ao PG Qag 64 40 Qez Qi6
theorem Zot (D:Rw):Q5s [.vC Aa D]=
 some [.vC Aa D,I 0]:=by kernel_rfl
def DS:=Q5s
theorem TO:An PG (Uf DS):=rw1 (C:=Qag) Zc8
def Zca:=qa 45 Qez ZE
def Qcy (D G:Fn):Cfg:=cp [Pc D,Uf G] [41,40]
def Vq (D G:Fn):Fn:=Ao PG (Qcy D G) 64 45 Qez ZE
theorem Zx6 (D L:Fn) (M:Rw):Vq D L [.vC Aa M]=
 (L [.vC Aa M]).bind λo4=>
 (D [I 900, .vC Aa (wA o4 0),jA o4 1]).bind λG=>
 (D [I 200, .vC Aa (wA G 1),jA G 2]).bind λo6=>
 (D [I 16000, .vC Aa (wA o6 1),jA o6 2]).bind λN=>
 some [I (V (1+gA G 0)),I (V (2+gA o6 0)),I (V (1+gA N 0))]:=by kernel_rfl
def Rt:=Vq Da DS
theorem Zbu:Ak PG (Qcy Da DS):=Ap rfl ⟨NA,TO,trivial⟩
theorem Zu5:An PG (Zca Rt):=rw1 (C:=Qcy Da DS) Zbu
def WQ:Sk:=⟨[tf [sd 20000 0]],[(20000,95,[sa Aa,ci])],[]⟩
def VZ:Sk:=⟨[TS.v true (cc 9++[sa Aa])],[(20000,95,[sa Aa,ci])],[]⟩
def Zjl:=qa 86 WQ VZ
def Xu (D:Fn):Cfg:={spec:=Ge [Pc D],eqOk:=J7,pure:=λf=> !(AQ [41] f),ownOff:=Zro}
def Qqh:Sk:=⟨[tf [sd 20000 0],td,tf [sd 2 0],tf [sd 3 0],tf [ci],tf [ci],tf [ci]]++dd 72,[(2,33,cc 9++[se 1002009 1]),(3,33,cc 9++[se 1003009 1]),(20000,95,[sa Aa,ci])],[(1002009,3,Aa),(1003009,3,Aa)]⟩
def Qyz:List (Ex×Sk):=[(Ex.exit 0,⟨[td,td,tf [sd 2 0],tf [sd 3 0]]++dd 75,[(2,33,cc 9++[se 1002009 1]),(3,33,cc 9++[se 1003009 1]),(20000,95,[sa Aa,ci])],[(1002009,3,Aa),(1003009,3,Aa)]⟩)]
def RS (D:Fn):Lp:=A1 PG (Xu D) 64 11 (A2 PG 86 11) Qqh Qyz
def Qqg (G:Fn) (D:Lp):Cfg:=(Xu G).loop 11 Qqh Qyz D
def VC (G:Fn) (D:Lp):Fn:=Ao PG (Qqg G D) 64 86 WQ VZ
theorem Q5j (Az:Fn) (v0 Y:Rw) (v2 v3 v4 v5 v6 v7 v8 v9 v10 v11 v12 D G L M N O T v20 v21 v22:Int) (U:Rw) (v24:Int):RS Az [.vC Aa v0, .vC Aa Y,I v2,I v3,I v4,I v5,I v6,I v7,I v8,I v9,I v10,I v11,I v12,I D,I G,I L,I M,I N,I O,I T,I v20,I v21,I v22, .vC Aa U,I v24]=
 cond (decide (v4<v2)) (cond (((Y++[[I v3]]).length*8).ble 140737488355328) ((Az [I (V (V (2*V (v22.tdiv 4))+1)), .vC Aa U,I v24]).bind λX=>
 some (0,[.vC Aa v0, .vC Aa (Y++[[I v3]]),I v2,I (mn (mx (V (V (v3+gA X 0)-V (v22.tdiv 4))) (-4096)) 4096),I (V (v4+1)),I v5,I v6,I v7,I v8,I v9,I v10,I v11,I v12,I D,I G,I L,I M,I N,I O,I T,I v20,I v21,I v22, .vC Aa (wA X 1),jA X 2])) (none)) (some (1,[.vC Aa v0, .vC Aa Y,I v5,I v6,I v7,I v8,I v9,I v10,I v11,I v12,I D,I G,I L,I M,I N,I O,I T,I v20,I v21,I v22, .vC Aa U,I v24])):=by kernel_rfl
theorem Ze4 (U:Fn) (a1:Lp) (x0:Rw) (x1:Int):VC U a1 [.vC Aa x0,I x1]=
 (U [I 6, .vC Aa x0,I x1]).bind λG=>
 cond (decide (0<=gA G 0)&&decide (gA G 0<(↑[[I 8],[I 4],[I 5],[I 16],[I 23],[I 64]].length:Int))) ((U [I 4, .vC Aa (wA G 1),jA G 2]).bind λL=>
 cond (decide (0<=gA L 0)&&decide (gA L 0<(↑[[I 0],[I 1],[I 3],[I 6]].length:Int))) ((U [I 5, .vC Aa (wA L 1),jA L 2]).bind λM=>
 cond (decide (0<=gA M 0)&&decide (gA M 0<(↑[[I 40],[I 1],[I 3],[I 9],[I 1000]].length:Int))) ((U [I 5, .vC Aa (wA M 1),jA M 2]).bind λN=>
 cond (decide (0<=gA N 0)&&decide (gA N 0<(↑[[I 20],[I 2],[I 3],[I 5],[I 1000]].length:Int))) ((U [I 5, .vC Aa (wA N 1),jA N 2]).bind λO=>
 cond (decide (0<=gA O 0)&&decide (gA O 0<(↑[[I 30],[I 4],[I 5],[I 8],[I 1000]].length:Int))) ((U [I 5, .vC Aa (wA O 1),jA O 2]).bind λT=>
 cond (gA T 0==0) (some [I (Ag (nth .vD (nth [] [[I 8],[I 4],[I 5],[I 16],[I 23],[I 64]] (gA G 0).toNat) 0)),I (Ag (nth .vD (nth [] [[I 40],[I 1],[I 3],[I 9],[I 1000]] (gA M 0).toNat) 0)),I (Ag (nth .vD (nth [] [[I 20],[I 2],[I 3],[I 5],[I 1000]] (gA N 0).toNat) 0)),I (Ag (nth .vD (nth [] [[I 30],[I 4],[I 5],[I 8],[I 1000]] (gA O 0).toNat) 0)),I (-16777216),I 16777216,I (Ag (nth .vD (nth [] [[I 0],[I 1],[I 3],[I 6]] (gA L 0).toNat) 0)),I 0,I 0, .vC Aa [], .vC Aa (wA T 1),jA T 2]) ((U [I 400, .vC Aa (wA T 1),jA T 2]).bind λX=>
 (U [I 120, .vC Aa (wA X 1),jA X 2]).bind λY=>
 (U [I 9, .vC Aa (wA Y 1),jA Y 2]).bind λa0=>
 (a1 [.vC Aa [], .vC Aa [],jA T 0,I (V (gA a0 0-4)),I 0,I 0,I 0,I 0,I 0,I 0,I 0,I 0,I 0,I 0,I (Ag (nth .vD (nth [] [[I 8],[I 4],[I 5],[I 16],[I 23],[I 64]] (gA G 0).toNat) 0)),I (Ag (nth .vD (nth [] [[I 40],[I 1],[I 3],[I 9],[I 1000]] (gA M 0).toNat) 0)),I (Ag (nth .vD (nth [] [[I 20],[I 2],[I 3],[I 5],[I 1000]] (gA N 0).toNat) 0)),I (Ag (nth .vD (nth [] [[I 30],[I 4],[I 5],[I 8],[I 1000]] (gA O 0).toNat) 0)),I (-16777216),I 16777216,I (Ag (nth .vD (nth [] [[I 0],[I 1],[I 3],[I 6]] (gA L 0).toNat) 0)),I (V (gA X 0-200)),I (V (4+gA Y 0)), .vC Aa (wA a0 1),jA a0 2]).bind λD=>
 cond (D.1.beq 1) (some [jA D.2 11,jA D.2 12,jA D.2 13,jA D.2 14,jA D.2 15,jA D.2 16,jA D.2 17,jA D.2 18,jA D.2 19, .vC Aa (wA D.2 1), .vC Aa (wA D.2 20),jA D.2 21]) (none))) (none)) (none)) (none)) (none)) (none):=by kernel_rfl
def Qni:=Am (RS Da)
def Nk:=VC Da Qni
theorem Qth:Ak PG (Xu Da):=Ap rfl ⟨NA,trivial⟩
theorem Z45:An PG (Zjl Nk):=rw2 (C:=Qqg Da Qni) (fl fb Qth) Qth
def Qiw:Sk:=⟨[TS.v true (cc 9++[sa Aa]++cc 9++[sa Aa]++cc 9++[sa Aa])],[],[]⟩
def Z22:=qa 44 Qez Qiw
def Qcw (D G:Fn):Cfg:=cp [Zjl D,Uf G] [86,40]
def Qwd (D G:Fn):Fn:=Ao PG (Qcw D G) 64 44 Qez Qiw
theorem Z8m (I L:Fn) (M:Rw):Qwd I L [.vC Aa M]=
 (L [.vC Aa M]).bind λo4=>
 (I [.vC Aa (wA o4 0),jA o4 1]).bind λD=>
 (I [.vC Aa (wA D 10),jA D 11]).bind λo6=>
 (I [.vC Aa (wA o6 10),jA o6 11]).bind λG=>
 some [jA D 0,jA D 1,jA D 2,jA D 3,jA D 4,jA D 5,jA D 6,jA D 7,jA D 8, .vC Aa (wA D 9),jA o6 0,jA o6 1,jA o6 2,jA o6 3,jA o6 4,jA o6 5,jA o6 6,jA o6 7,jA o6 8, .vC Aa (wA o6 9),jA G 0,jA G 1,jA G 2,jA G 3,jA G 4,jA G 5,jA G 6,jA G 7,jA G 8, .vC Aa (wA G 9)]:=by kernel_rfl
def OA:=Qwd Nk DS
theorem Z62:Ak PG (Qcw Nk DS):=Ap rfl ⟨Z45,TO,trivial⟩
theorem Zpj:An PG (Z22 OA):=rw1 (C:=Qcw Nk DS) Z62
def Qo0:Sk:=⟨[tf [sa Aa],tf [sa Aa]],[],[]⟩
def Zkg:=qa 14 Qo0 Wi
def Wb (D G I L:Fn):Cfg:=cp [Pc D,Zca G,Z22 I,Uf L] [41,40]
def XN (D G I L:Fn):Fn:=Ao PG (Wb D G I L) 64 14 Qo0 Wi
theorem Zxs (G M N O:Fn) (T D:Rw):XN G M N O [.vC Aa T, .vC Aa D]=
 (O [.vC Aa D]).bind λU=>
 (N [.vC Aa T]).bind λo6=>
 (M [.vC Aa D]).bind λL=>
 (G [I 60000, .vC Aa (wA U 0),I (mn 3 (D.length:Int))]).bind λo8=>
 (G [I 40, .vC Aa (wA o8 1),jA o8 2]).bind λX=>
 some [jA o6 0,jA o6 1,jA o6 2,jA o6 3,jA o6 4,jA o6 5,jA o6 6,jA o6 7,jA o6 8, .vC Aa (wA o6 9),jA o6 10,jA o6 11,jA o6 12,jA o6 13,jA o6 14,jA o6 15,jA o6 16,jA o6 17,jA o6 18, .vC Aa (wA o6 19),jA o6 20,jA o6 21,jA o6 22,jA o6 23,jA o6 24,jA o6 25,jA o6 26,jA o6 27,jA o6 28, .vC Aa (wA o6 29),jA L 0,jA L 1,jA L 2,I (V (1+gA o8 0)),jA X 0]:=by kernel_rfl
def Qr:=XN Da Rt OA DS
theorem Zy1:Ak PG (Wb Da Rt OA DS):=Ap rfl ⟨NA,Zu5,Zpj,TO,trivial⟩
theorem Z6b:An PG (Zkg Qr):=rw1 (C:=Wb Da Rt OA DS) Zy1
def Ztx:=qa 137 W2 ZE
def Za6:Fn:=Ao PG Qag 64 137 W2 ZE
theorem Z55 (D G L M:Int):Za6 [I D,I G,I L,I M]=
 cond (M==17) (some [I D,I G,I L]) (cond (M==18) (some [I G,I L,I D]) (cond (M==19) (some [I L,I D,I G]) (some [I 0,I 0,I 0]))):=by kernel_rfl
def Ox:=Za6
theorem Zi7:An PG (Ztx Ox):=rw1 (C:=Qag) Zc8
def Zky:=qa 136 YD WB
def Qw5:Fn:=Ao PG Qag 64 136 YD WB
theorem Zvj (D G:Int):Qw5 [I D,I G]=
 cond (decide (0<=G.tmod 4)&&decide (G.tmod 4<(↑[[I D],[I 0],[I (V (0-D))],[I 0]].length:Int))) (cond (decide (0<=G.tmod 4)&&decide (G.tmod 4<(↑[[I 0],[I D],[I 0],[I (V (0-D))]].length:Int))) (some [I (Ag (nth .vD (nth [] [[I D],[I 0],[I (V (0-D))],[I 0]] (G.tmod 4).toNat) 0)),I (Ag (nth .vD (nth [] [[I 0],[I D],[I 0],[I (V (0-D))]] (G.tmod 4).toNat) 0))]) (none)) (none):=by kernel_rfl
def OX:=Qw5
theorem Zqy:An PG (Zky OX):=rw1 (C:=Qag) Zc8
def Z5j:=qa 135 Qf9 Qhj
def Qvq:Fn:=Ao PG Qag 64 135 Qf9 Qhj
theorem Zoa (D G L M:Int):Qvq [I D,I G,I L,I M]=
 cond (M==17) (some [I D,I G,I L]) (cond (M==18) (some [I L,I D,I G]) (cond (M==19) (some [I G,I L,I D]) (some [I 0,I 0,I 0]))):=by kernel_rfl
def Od:=Qvq
theorem Z0y:An PG (Z5j Od):=rw1 (C:=Qag) Zc8
def Ql4:Sk:=⟨[tf [sd 20000 0],TS.v true [ci,ci,ci],tf [ci]],[(20000,95,[sa Aa,ci])],[]⟩
def Xv:Sk:=⟨[TS.v true (cc 13++[sb,ci,sb]++cc 5++[sb])],[(20000,95,[sa Aa,ci])],[]⟩
def Zsz:=qa 85 Ql4 Xv
def XF (D G I L:Fn):Cfg:=cp [Ztx D,Zky G,Z5j I,Pc L] [41]
def Qho (D G I L:Fn):Fn:=Ao PG (XF D G I L) 64 85 Ql4 Xv
abbrev R4 (Az Hp:Fn) (X M:List AC) (x0 x1 x2:Int) (G Y a0:List AC) (N O T U:AC):Option (List AC):=
 (Az [I 4,N,O]).bind λD=>
 cond (decide (0<=gA D 0)&&decide (gA D 0<(↑[[I 0],[I 0],[I 7],[I (-12)]].length:Int))) ((Hp [T,U,I (V (gA X 2+Ag (nth .vD (nth [] [[I 0],[I 0],[I 7],[I (-12)]] (gA D 0).toNat) 0))),I (Ag (nth .vD (nth [] [[I 17],[I 18],[I 19]] (gA M 0).toNat) 0))]).bind λL=>
 some [I 3,I 0,I x0,I x1,I x2,jA L 0,jA L 1,jA L 2,I (Ag (nth .vD (nth [] [[I 17],[I 18],[I 19]] (gA M 0).toNat) 0)),jA G 0,jA G 1,jA G 2,I (V (1-V (gA Y 0*2))),B (gA a0 0==0),I 0,B false,I 0,I 0,I 0,I 0,I 0,B false, .vC Aa (wA D 1),jA D 2]) (none)
theorem Zxc (Hp Mc ND T:Fn) (x0 x1 x2 x3:Int) (x4:Rw) (x5:Int):Qho Hp Mc ND T [I x0,I x1,I x2,I x3, .vC Aa x4,I x5]=
 (T [I 3, .vC Aa x4,I x5]).bind λG=>
 cond (decide (0<=gA G 0)&&decide (gA G 0<(↑[[I 17],[I 18],[I 19]].length:Int))) ((T [I 2, .vC Aa (wA G 1),jA G 2]).bind λU=>
 (T [I x3, .vC Aa (wA U 1),jA U 2]).bind λM=>
 (T [I 4, .vC Aa (wA M 1),jA M 2]).bind λY=>
 (T [I 4, .vC Aa (wA Y 1),jA Y 2]).bind λL=>
 (ND [I x0,I x1,I x2,I (Ag (nth .vD (nth [] [[I 17],[I 18],[I 19]] (gA G 0).toNat) 0))]).bind λD=>
 (Mc [I (V (8+gA M 0)),jA Y 0]).bind λN=>
 (Mc [I (V (8+gA M 0)),I (V (gA Y 0+gA L 0))]).bind λO=>
 (Hp [I (V (gA D 0-gA N 0)),I (V (gA D 1-gA N 1)),jA D 2,I (Ag (nth .vD (nth [] [[I 17],[I 18],[I 19]] (gA G 0).toNat) 0))]).bind λa0=>
 cond (decide (gA L 0>0)) ((T [I 3, .vC Aa (wA L 1),jA L 2]).bind λX=>
 cond (gA X 0==0) (cond (decide (V (8+gA M 0)=0)) (none) ((T [I 5, .vC Aa (wA X 1),jA X 2]).bind λa1=>
 cond (decide (V (8+gA M 0)=0)) (none) ((T [I 5, .vC Aa (wA a1 1),jA a1 2]).bind λa2=>
 R4 T Hp D G x0 x1 x2 a0 U L (.vC Aa (wA a2 1)) (jA a2 2) (I (V (V (gA D 0-gA N 0)+V (gA O 0+V (V ((gA O 0).tdiv (V (8+gA M 0)))*gA a1 0))))) (I (V (V (gA D 1-gA N 1)+V (gA O 1+V (V ((gA O 1).tdiv (V (8+gA M 0)))*gA a2 0)))))))) (R4 T Hp D G x0 x1 x2 a0 U L (.vC Aa (wA X 1)) (jA X 2) (I (V (V (gA D 0-gA N 0)+gA O 0))) (I (V (V (gA D 1-gA N 1)+gA O 1))))) (R4 T Hp D G x0 x1 x2 a0 U L (.vC Aa (wA L 1)) (jA L 2) (I (V (V (gA D 0-gA N 0)+gA O 0))) (I (V (V (gA D 1-gA N 1)+gA O 1))))) (none):=by kernel_rfl
def Qj:=Qho Ox OX Od Da
theorem Zbp:Ak PG (XF Ox OX Od Da):=Ap rfl ⟨Zi7,Zqy,Z0y,NA,trivial⟩
theorem Z13:An PG (Zsz Qj):=rw1 (C:=XF Ox OX Od Da) Zbp
def Zls:=qa 43 Ql4 Xv
def VI (D G:Fn):Cfg:=cp [Pc D,Zsz G] [41,85]
def VD (D G:Fn):Fn:=Ao PG (VI D G) 64 43 Ql4 Xv
abbrev Qc7 (Az:Fn) (b0:List AC) (x3:Int) (Y a0 a1 a2 a3 a4 a5 a6 a7 a8 G L M N O T U X:AC):Option (List AC):=
 (Az [I 60, .vC Aa (wA b0 1),jA b0 2]).bind λD=>
 cond (x3==6) ((Az [I 2, .vC Aa (wA D 1),jA D 2]).bind λa9=>
 some [Y,a0,a1,a2,a3,a4,a5,a6,a7,a8,G,L,M,N,I (V (1+gA D 0)),B true,O,T,I 0,I (V (3+gA a9 0)),U,X, .vC Aa (wA a9 1),jA a9 2]) (some [Y,a0,a1,a2,a3,a4,a5,a6,a7,a8,G,L,M,N,I (V (1+gA D 0)),B true,O,T,I 0,I 0,U,X, .vC Aa (wA D 1),jA D 2])
abbrev Wq (x3:Int) (Az:Fn) (X Y a0 a1 a2 a3 a4 a5 a6 a7 D G L M b3 a8 N O b4 a9 T U b1 b2:AC):Option (List AC):=
 cond (x3==1) (some [X,Y,a0,a1,a2,a3,a4,a5,a6,a7,D,G,L,M,b3,a8,N,O,b4,a9,T,U,b1,b2]) ((Az [I 5,b1,b2]).bind λb0=>
 cond (decide (0<=gA b0 0)&&decide (gA b0 0<(↑[[I 300000],[I 1],[I 60000],[I 2000000],[I 60000000]].length:Int))) ((Az [I 5, .vC Aa (wA b0 1),jA b0 2]).bind λV=>
 cond (decide (0<=gA V 0)&&decide (gA V 0<(↑[[I 0],[I 1],[I 2],[I 4],[I 9]].length:Int))) (cond (x3==5) (Qc7 Az V x3 X Y a0 a1 a2 a3 a4 a5 a6 a7 D G L M N O T U) (cond (x3==6) (Qc7 Az V x3 X Y a0 a1 a2 a3 a4 a5 a6 a7 D G L M N O T U) (cond (x3==4) (some [X,Y,a0,a1,a2,a3,a4,a5,a6,a7,D,G,L,M,I (Ag (nth .vD (nth [] [[I 300000],[I 1],[I 60000],[I 2000000],[I 60000000]] (gA b0 0).toNat) 0)),a8,N,O,I 0,a9,T,U, .vC Aa (wA V 1),jA V 2]) (some [X,Y,a0,a1,a2,a3,a4,a5,a6,a7,D,G,L,M,I (Ag (nth .vD (nth [] [[I 300000],[I 1],[I 60000],[I 2000000],[I 60000000]] (gA b0 0).toNat) 0)),a8,N,O,I (Ag (nth .vD (nth [] [[I 0],[I 1],[I 2],[I 4],[I 9]] (gA V 0).toNat) 0)),a9,T,U, .vC Aa (wA V 1),jA V 2])))) (none)) (none))
theorem Zzm (G Pd:Fn) (X Y x2 U:Int) (x4:Rw) (x5:Int):VD G Pd [I X,I Y,I x2,I U, .vC Aa x4,I x5]=
 cond (U==3) ((Pd [I X,I Y,I x2,I 8, .vC Aa x4,I x5]).bind λD=>
 Wq U G (jA D 0) (jA D 1) (jA D 2) (jA D 3) (jA D 4) (jA D 5) (jA D 6) (jA D 7) (jA D 8) (jA D 9) (jA D 10) (jA D 11) (jA D 12) (B (bA D 13)) (jA D 14) (B (bA D 15)) (jA D 16) (jA D 17) (jA D 18) (jA D 19) (jA D 20) (B (bA D 21)) (.vC Aa (wA D 22)) (jA D 23)) ((G [I 25, .vC Aa x4,I x5]).bind λL=>
 (G [I 25, .vC Aa (wA L 1),jA L 2]).bind λM=>
 (G [I 3, .vC Aa (wA M 1),jA M 2]).bind λN=>
 (G [I 9, .vC Aa (wA N 1),jA N 2]).bind λO=>
 (G [I 2, .vC Aa (wA O 1),jA O 2]).bind λT=>
 Wq U G (I U) (I 0) (I X) (I Y) (I x2) (I (V (V (X+gA L 0)-12))) (I (V (V (Y+gA M 0)-12))) (I (V (V (x2+V (gA N 0*gA O 0))-V (8*gA T 0)))) (I 0) (I 0) (I 0) (I 0) (I 0) (B false) (I 0) (B false) (I 0) (I 0) (I 0) (I 0) (I 0) (B false) (.vC Aa (wA T 1)) (jA T 2)):=by kernel_rfl
def Ne:=VD Da Qj
theorem Zqb:Ak PG (VI Da Qj):=Ap rfl ⟨NA,Z13,trivial⟩
theorem Zny:An PG (Zls Ne):=rw1 (C:=VI Da Qj) Zqb
def Qhz:Sk:=⟨[tf [sb]],[(20000,95,[sa Aa,ci])],[]⟩
def Zhj:=qa 42 WQ Qhz
def Qur:Fn:=Ao PG Qag 64 42 WQ Qhz
theorem Zel (D:Rw) (G:Int):Qur [.vC Aa D,I G]=
 some [B (decide (G<(D.length:Int))), .vC Aa D,I G]:=by kernel_rfl
def Le:=Qur
theorem Z4j:An PG (Zhj Le):=rw1 (C:=Qag) Zc8
def Qa3:Sk:=⟨[tf [se 6 22]],[],[(6,31,Ai)]⟩
def Zn1:=qa 11 Qhb Qa3
def Yo (D G I L:Fn):Cfg:={cp [Zls D,Zhj G,Pc I,Uf L] [43,42,41,40]with ownRes:=true,prom:=λb=>cond (Nat.beq b 4) ([(6,31)]) ([])}
def Q7z:Sk:=⟨[td,tf [ci],td,td,td,tf [sd 101000 0],tf [se 6 22],tf [sd 7 0]]++dd 36,[(7,29,[ci,ci,ci]),(101000,95,[sa Aa,ci])],[(6,31,Ai)]⟩
def Q85:List (Ex×Sk):=[(Ex.exit 0,⟨dd 6++[tf [se 6 22]]++dd 37,[],[(6,31,Ai)]⟩)]
def Qj7 (D G I L:Fn):Lp:=A1 PG (Yo D G I L) 64 4 (A2 PG 11 4) Q7z Q85
def Qqr (D G I L:Fn) (M:Lp):Cfg:=(Yo D G I L).loop 4 Q7z Q85 M
def Qfv (D G I L:Fn) (M:Lp):Fn:=Ao PG (Qqr D G I L M) 64 11 Qhb Qa3
theorem Zxq (O T U BX:Fn) (M:Rw) (N V X Y:Int) (v5:Rw) (v6:Int):Qj7 O T U BX [.vC Ai M,I N,I V,I X,I Y, .vC Aa v5,I v6]=
 cond (decide ((M.length:Int)<N)) ((T [.vC Aa v5,I v6]).bind λL=>
 cond (bA L 0) ((U [I 5, .vC Aa (wA L 1),jA L 2]).bind λG=>
 cond (decide (0<=gA G 0)&&decide (gA G 0<(↑[[I 2],[I 2],[I 2],[I 3],[I 1]].length:Int))) ((O [I V,I X,I Y,I (Ag (nth .vD (nth [] [[I 2],[I 2],[I 2],[I 3],[I 1]] (gA G 0).toNat) 0)), .vC Aa (wA G 1),jA G 2]).bind λD=>
 cond (((M++[[jA D 0,jA D 1,jA D 2,jA D 3,jA D 4,jA D 5,jA D 6,jA D 7,jA D 8,jA D 9,jA D 10,jA D 11,jA D 12,B (bA D 13),jA D 14,B (bA D 15),jA D 16,jA D 17,jA D 18,jA D 19,jA D 20,B (bA D 21)]]).length*176).ble 140737488355328) (some (0,[.vC Ai (M++[[jA D 0,jA D 1,jA D 2,jA D 3,jA D 4,jA D 5,jA D 6,jA D 7,jA D 8,jA D 9,jA D 10,jA D 11,jA D 12,B (bA D 13),jA D 14,B (bA D 15),jA D 16,jA D 17,jA D 18,jA D 19,jA D 20,B (bA D 21)]]),I N,jA D 5,jA D 6,jA D 7, .vC Aa (wA D 22),jA D 23])) (none)) (none)) (some (1,[.vC Ai M]))) (some (1,[.vC Ai M])):=by kernel_rfl
theorem Zia (Gx GU O T:Fn) (U:Lp) (X:Rw) (Y:Int):Qfv Gx GU O T U [.vC Aa X,I Y]=
 (T [.vC Aa X]).bind λM=>
 (O [I 9, .vC Aa (wA M 0),jA M 1]).bind λD=>
 (O [I 9, .vC Aa (wA D 1),jA D 2]).bind λG=>
 (O [I 9, .vC Aa (wA G 1),jA G 2]).bind λL=>
 (U [.vC Ai [],I Y,I (V (gA D 0-4)),I (V (gA G 0-4)),I (V (gA L 0-4)), .vC Aa (wA L 1),jA L 2]).bind λN=>
 cond (N.1.beq 1) (some [.vC Ai (wA N.2 0)]) (none):=by kernel_rfl
def Qvp:=Am (Qj7 Ne Le Da DS)
def PQ:=Qfv Ne Le Da DS Qvp
theorem Qw3:Ak PG (Yo Ne Le Da DS):=Ap rfl ⟨Zny,Z4j,NA,TO,trivial⟩
theorem Z60:An PG (Zn1 PQ):=rw2 (C:=Qqr Ne Le Da DS Qvp) (fl fb Qw3) Qw3
def Qcp:Sk:=⟨[tf [sa [Kd.sl Aa]]],[],[]⟩
def Z65:=qa 39 Qcp Qne
def Qyp:Sk:=⟨[td,td,td,td,td,tf [sa [Kd.sl Aa]],tf [ci],tf [ci]]++dd 7,[],[]⟩
def Qr6:List (Ex×Sk):=[(Ex.ret,⟨[td,td,tf [sb]]++dd 12,[],[]⟩),(Ex.exit 0,⟨[td]++dd 14,[],[]⟩)]
def S9:Lp:=A1 PG Qag 64 2 (A2 PG 39 2) Qyp Qr6
def Q4c (D:Lp):Cfg:=Qag.loop 2 Qyp Qr6 D
def V3 (D:Lp):Fn:=Ao PG (Q4c D) 64 39 Qcp Qne
theorem Zyr (G:Rw) (L D:Int):S9 [.vC [Kd.sl Aa] G,I L,I D]=
 cond (decide (D<L)) (cond (decide (0<=D)&&decide (D<(G.length:Int))) (cond (decide ((↑(wA (nth [] G D.toNat) 0).length:Int)>60)) (some (1,[B false])) (some (0,[.vC [Kd.sl Aa] G,I L,I (V (D+1))]))) (none)) (some (2,[])):=by kernel_rfl
theorem Zxr (G:Lp) (D:Rw):V3 G [.vC [Kd.sl Aa] D]=
 (G [.vC [Kd.sl Aa] D,I (D.length:Int),I 0]).bind λo1=>
 cond (o1.1.beq 1) (some [B (bA o1.2 0)]) (cond (o1.1.beq 2) (some [B true]) (none)):=by kernel_rfl
def Q8v:=Am (S9)
def KE:=V3 Q8v
theorem Zix:An PG (Z65 KE):=rw2 (C:=Q4c Q8v) (fl fb Zc8) Zc8
abbrev Z3u (M:Fn) (L:List AC) (N:Int) (G:AC):Option (List AC):=
 (M [G, .vC Aa (wA L 1),jA L 2]).bind λD=>
 some [I N,I (Ag (nth .vD (nth [] [[I 4],[I 1],[I 2],[I 3],[I 4],[I 5],[I 6],[I 7],[I 4],[I 8],[I 9],[I 11],[I 12],[I 13],[I 10]] (gA L 0).toNat) 0)),I (V (gA D 0-5)), .vC Aa (wA D 1),jA D 2]
abbrev Z5y (L:Fn) (o8:List AC):Option (List AC):=
 (L [I 16, .vC Aa (wA o8 1),jA o8 2]).bind λG=>
 (L [I 2, .vC Aa (wA G 1),jA G 2]).bind λD=>
 some [I 10,I 0,I 0,I 0,I 0,I 0,I 0,I 0,I 0,I 0,I 0,I 0,I 0,B false,I 0,B false,I 0,I 0,I 0,jA G 0,I 0,B (gA D 0==0), .vC Aa (wA D 1),jA D 2]
attribute [go_sem] Oe IG Qnw Qek Qb9 Xy QA T6 R7 R9 SU Qaa QZ YI Qgr Qfn Qcv Lh QW PT R4 Qc7 Wq Z3u Z5y
end Go.Bm
