/- the controller's 90 cells -/
import Derived.Test.YtnnpdlgenmnekaaGreatDoorSePre
import Derived.Test.YtnnpdlgenmnekaaGreatDoorBmTy
set_option linter.unusedVariables false
set_option linter.unusedSimpArgs false
set_option maxRecDepth 100000
namespace Go.Bm
abbrev sc:=@CS.sl
def cc:Nat->List CS
 |0=>[]
 |n+1=>ci::cc n
structure Kf where
 x:Ax3
 pa:Int
 pb:Int
 pc:Int
 bF:Int
 lag:Int
 aA:List Itm
 closed:Bool
 p:Pth
 len:Int
 set:Int
 t:Trk
structure Cv where
 m0:Int
 m1:Int
 m2:Int
 m3:Int
 m4:Int
 m5:Int
 o0:Int
 o1:Int
 o2:Bool
 o3:Bool
 o4:Bool
 g0:Int
 g1:Int
 g2:Int
 s0:Int
 s1:Int
 s2:Int
 s3:Int
 outs:Int
 next:Int
 aK:Int
 way:Int
 home:Int
 on:Bool
 idx:Int
 aN:Bool
 cnt:Int
 aH:Bool
 aI:Int
 y0:Int
 y1:Int
 y2:Int
 e0:Int
 e1:Int
 e2:Int
 e3:Int
 before:Int
 aJ:Bool
 aM:Bool
 aL:Bool
abbrev BB (K:Kf) (c:Cv):List AC:=[I K.x.a.step,I K.x.a.aS,I K.x.a.bD,I K.x.a.bE,I K.x.a.low,I K.x.a.aY,I K.x.a.bB,I K.x.a.aV,I K.x.a.aO, .vC kInts (K.x.a.aW.map Ct),I K.x.b.step,I K.x.b.aS,I K.x.b.bD,I K.x.b.bE,I K.x.b.low,I K.x.b.aY,I K.x.b.bB,I K.x.b.aV,I K.x.b.aO, .vC kInts (K.x.b.aW.map Ct),I K.x.c.step,I K.x.c.aS,I K.x.c.bD,I K.x.c.bE,I K.x.c.low,I K.x.c.aY,I K.x.c.bB,I K.x.c.aV,I K.x.c.aO, .vC kInts (K.x.c.aW.map Ct),I K.pa,I K.pb,I K.pc,I K.bF,I K.lag, .vC Bj (K.aA.map Fq),B K.closed,I K.p.aQ.x,I K.p.aQ.y,I K.p.aQ.z, .vC A8 (K.p.aF.map Mj), .vC kPt (K.p.aD.map C2),I K.len,I K.set, .vC B_ (K.t.aE.map EB),I K.t.length,I K.t.aQ,I K.t.aT.x,I K.t.aT.y,I K.t.aT.z,I c.m0,I c.m1,I c.m2,I c.m3,I c.m4,I c.m5,I c.o0,I c.o1,B c.o2,B c.o3,B c.o4,I c.g0,I c.g1,I c.g2,I c.s0,I c.s1,I c.s2,I c.s3,I c.outs,I c.next,I c.aK,I c.way,I c.home,B c.on,I c.idx,B c.aN,I c.cnt,B c.aH,I c.aI,I c.y0,I c.y1,I c.y2,I c.e0,I c.e1,I c.e2,I c.e3,I c.before,B c.aJ,B c.aM,B c.aL]
abbrev cR (k:Nat) (o:List AC):List AC:=[jA o (k+0),jA o (k+1),jA o (k+2),jA o (k+3),jA o (k+4),jA o (k+5),jA o (k+6),jA o (k+7),jA o (k+8), .vC kInts (wA o (k+9)),jA o (k+10),jA o (k+11),jA o (k+12),jA o (k+13),jA o (k+14),jA o (k+15),jA o (k+16),jA o (k+17),jA o (k+18), .vC kInts (wA o (k+19)),jA o (k+20),jA o (k+21),jA o (k+22),jA o (k+23),jA o (k+24),jA o (k+25),jA o (k+26),jA o (k+27),jA o (k+28), .vC kInts (wA o (k+29)),jA o (k+30),jA o (k+31),jA o (k+32),jA o (k+33),jA o (k+34), .vC Bj (wA o (k+35)),B (bA o (k+36)),jA o (k+37),jA o (k+38),jA o (k+39), .vC A8 (wA o (k+40)), .vC kPt (wA o (k+41)),jA o (k+42),jA o (k+43), .vC B_ (wA o (k+44)),jA o (k+45),jA o (k+46),jA o (k+47),jA o (k+48),jA o (k+49),jA o (k+50),jA o (k+51),jA o (k+52),jA o (k+53),jA o (k+54),jA o (k+55),jA o (k+56),jA o (k+57),B (bA o (k+58)),B (bA o (k+59)),B (bA o (k+60)),jA o (k+61),jA o (k+62),jA o (k+63),jA o (k+64),jA o (k+65),jA o (k+66),jA o (k+67),jA o (k+68),jA o (k+69),jA o (k+70),jA o (k+71),jA o (k+72),B (bA o (k+73)),jA o (k+74),B (bA o (k+75)),jA o (k+76),B (bA o (k+77)),jA o (k+78),jA o (k+79),jA o (k+80),jA o (k+81),jA o (k+82),jA o (k+83),jA o (k+84),jA o (k+85),jA o (k+86),B (bA o (k+87)),B (bA o (k+88)),B (bA o (k+89))]
def DL (l:List AC):List (Nat×AC)->List AC
 |[]=>l
 |(i,v)::r=>DL (l.set i v) r
attribute [go_sem] cR
open Go.Proofs
noncomputable abbrev PG:Program:=Tryz.prog
noncomputable def cf (l:List (Nat×Spec)):Cfg:={spec:=CE l,eqOk:=EN,ownOff:=ownOff}
theorem rw1 {C:Cfg} {f:FuncId} {sig A:Sk} (D:Ak PG C) (E:C.loops=λ_=>none:=by rfl) (hb:C.blocks=λ_=>none:=by rfl) (G:C.conds=λ_=>none:=by rfl) (he:C.eqOk=EN:=by rfl) (J:CB PG f=true:=by kernel_rfl) (h1:sig.okB=true:=by kernel_rfl) (h2:A.okB=true:=by kernel_rfl):
  Av PG (f,Aj sig A (Bh PG C 64 f sig A)):=F0 J (FnOK.bare E hb G) D (by rw[he];exact eqOk) CI h1 h2
theorem rw2 {C:Cfg} {f:FuncId} {sig A:Sk} (h:FnOK PG C f) (D:Ak PG C) (he:C.eqOk=EN:=by rfl) (E:CB PG f=true:=by kernel_rfl) (h1:sig.okB=true:=by kernel_rfl) (h2:A.okB=true:=by kernel_rfl):
  Av PG (f,Aj sig A (Bh PG C 64 f sig A)):=F0 E h D (by rw[he];exact eqOk) CI h1 h2
theorem fb {C:Cfg} {f:FuncId} (A:C.loops=λ_=>none:=by rfl) (hb:C.blocks=λ_=>none:=by rfl) (D:C.conds=λ_=>none:=by rfl):FnOK PG C f:=FnOK.bare A hb D
theorem fl {C:Cfg} {f:FuncId} (h:FnOK PG C f) (D:Ak PG C) {L blk:Nat} {sk:Sk} {A:List (Ex×Sk)} (he:C.eqOk=EN:=by rfl) (E:AK ((Dm PG f).map (·.1))=true:=by kernel_rfl) (G:sk.okB=true:=by kernel_rfl):
  FnOK PG (C.loop blk sk A (AD (Cm PG C L blk (Ck PG f blk) sk A))) f:=h.loop D (by rw[he];exact eqOk) CI E G
end Go.Bm
