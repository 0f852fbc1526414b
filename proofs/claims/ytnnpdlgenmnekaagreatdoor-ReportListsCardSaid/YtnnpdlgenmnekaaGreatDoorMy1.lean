/- functions of the program and of the references, as models -/
import Derived.Test.YtnnpdlgenmnekaaGreatDoorMx2
import Derived.Test.YtnnpdlgenmnekaaGreatDoorSeAw0
import Derived.Test.YtnnpdlgenmnekaaGreatDoorSeFm
import Derived.Test.YtnnpdlgenmnekaaGreatDoorSeLsA
import Derived.Test.YtnnpdlgenmnekaaGreatDoorSeLsB
import Derived.Test.YtnnpdlgenmnekaaGreatDoorSeLsC
import Derived.Test.YtnnpdlgenmnekaaGreatDoorSeLsD
import Derived.Test.YtnnpdlgenmnekaaGreatDoorSeLsE
import Derived.Test.YtnnpdlgenmnekaaGreatDoorSeLsF
import Derived.Test.YtnnpdlgenmnekaaGreatDoorSeLsG
import Derived.Test.YtnnpdlgenmnekaaGreatDoorSeLsH
import Derived.Test.YtnnpdlgenmnekaaGreatDoorSeLsI
import Derived.Test.YtnnpdlgenmnekaaGreatDoorSeLsJ
import Derived.Test.YtnnpdlgenmnekaaGreatDoorSeLsK
set_option linter.unusedSimpArgs false
set_option linter.unusedVariables false
set_option maxRecDepth 100000
noncomputable section
namespace Go.Bm
open Go.Proofs
def Jy:Sk:=⟨[],[],[]⟩
def TC:=q7 9 Jy Hu
def KH (A D E:Fn):Cfg:=cf [(31,Aj EI EZ A),Nz D,RT E]
def Mw (A D E:Fn):Fn:=Bh PG (KH A D E) 64 9 Jy Hu
theorem Ue (A D E:Fn):Mw A D E []=
 (E [I 8,I 10,I 10,I 10,I (-16777216),I 16777216,I 0,I 0,I 0, .vC kInts [],I 8,I 10,I 10,I 10,I (-16777216),I 16777216,I 0,I 0,I 0, .vC kInts [],I 8,I 10,I 10,I 10,I (-16777216),I 16777216,I 0,I 0,I 0, .vC kInts [],I 9,I 3,I 100,I 1,I 0, .vC Bj [], .vC kPt [],I 5]).bind λo3=>
 cond (gA o3 1==0) (cond ((↑(wA o3 0).length:Int)==1) ((D [.vC [Kd.sl kPt,Kd.sl kInts,kI,kI,kI,kI,kI,kI,kI] (wA o3 0)]).bind λo4=>
 cond (bA o4 0) ((A [.vC [Kd.sl kPt,Kd.sl kInts,kI,kI,kI,kI,kI,kI,kI] [[.vC (kInts++(kInts++(kInts++[]))) [], .vC kInts [],I 7,I 160,I 0,I 0,I 0,I 0,I 0]]]).bind λG=>
 some [B ((Ah (nth .vD G 0)).toList==(ByteArray.mk #[48,32,109,111,100,101,55,32,97,116,49,54,48,32,102,97,117,108,116,48,10]).toList)]) (some [B false])) (some [B false])) (some [B false]):=by kernel_rfl
def Fg:Fn:=Bh PG CA 400 18 Hz Ja
theorem T2:Av PG (18,Aj Hz Ja Fg):=F0 (by kernel_rfl) (FnOK.bare rfl rfl rfl) PF eqOk CI (by kernel_rfl) (by kernel_rfl)
theorem Tl:Fg [I 8,I 10,I 10,I 10,I (-16777216),I 16777216,I 0,I 0,I 0, .vC kInts [],I 8,I 10,I 10,I 10,I (-16777216),I 16777216,I 0,I 0,I 0, .vC kInts [],I 8,I 10,I 10,I 10,I (-16777216),I 16777216,I 0,I 0,I 0, .vC kInts [],I 9,I 3,I 100,I 1,I 0, .vC Bj [], .vC kPt [],I 5]=some [.vC [Kd.sl kPt,Kd.sl kInts,kI,kI,kI,kI,kI,kI,kI] [[.vC kPt [], .vC kInts [],I 7,I 0,I 0,I 0,I 0,I 0,I 0]],I 0]:=by kernel_rfl
def mAw:Fn:=Mw B2 B4 Fg
theorem rAw:Av PG (TC mAw):=F0 (C:=KH B2 B4 Fg) (by kernel_rfl) (FnOK.bare rfl rfl rfl) (BY rfl ⟨KG,Lk,T2,trivial⟩) eqOk CI (by kernel_rfl) (by kernel_rfl)
def G5 (D E G J L N O Q A:Fn):Cfg:={cf [Ox D,(31,Aj EI EZ E),Nz G,Px J,Ov L,QA N,DM O,TC Q]with blocks:=λb=>cond (Nat.beq b 1) (some (skB1,gB1 A)) (none),prom:=λb=>cond (Nat.beq b 24) ([(7,125)]) ([])}
def Mf:Sk:=⟨[tf [sc [Kd.sl kPt,Kd.sl kInts,kI,kI,kI,kI,kI,kI,kI]],td,td,tf [CS.own 17 9]]++dd 17++[tf [ci],tf [ci]]++dd 132,[],[(17,61,[Kd.sl kPt,Kd.sl kInts,kI,kI,kI,kI,kI,kI,kI])]⟩
def MA:List (Ex×Sk):=[(Ex.ret,⟨[td,td,tf [CS.bool]]++dd 152,[],[]⟩),(Ex.exit 0,⟨[td,td,td,tf [CS.own 17 9]]++dd 151,[],[(17,61,[Kd.sl kPt,Kd.sl kInts,kI,kI,kI,kI,kI,kI,kI])]⟩)]
def Jd (D E G J L N O Q A:Fn):Lp:=Cm PG (G5 D E G J L N O Q A) 64 7 (Ck PG 7 7) Mf MA
def Lq (D E G J L N O Q A:Fn) (S:Lp):Cfg:=(G5 D E G J L N O Q A).loop 7 Mf MA S
def Km:Sk:=⟨[td,td,td,tf [sc [Kd.sl kPt,Kd.sl kInts,kI,kI,kI,kI,kI,kI,kI]],td,td,td,tf [CS.own 7 3],tf [sc kPt]]++dd 98++[tf [sc [Kd.sl kPt,Kd.sl kInts,kI,kI,kI,kI,kI,kI,kI]],tf [ci],tf [ci]]++dd 45,[],[(7,125,kPt)]⟩
def Lu:List (Ex×Sk):=[(Ex.ret,⟨[td,td,tf [CS.bool]]++dd 152,[],[]⟩),(Ex.exit 4,⟨[td,td,td,tf [sc [Kd.sl kPt,Kd.sl kInts,kI,kI,kI,kI,kI,kI,kI]],td,td,td,tf [CS.own 7 3]]++dd 147,[],[(7,125,kPt)]⟩)]
def Jw (D E G J L N O Q A:Fn) (S:Lp):Lp:=Cm PG (Lq D E G J L N O Q A S) 64 24 (Ck PG 7 24) Km Lu
def J2 (E G J L N O Q S A:Fn) (T D:Lp):Cfg:=(Lq E G J L N O Q S A T).loop 24 Km Lu D
def Ka (E G J L N O Q S A:Fn) (T D:Lp):Fn:=Bh PG (J2 E G J L N O Q S A T D) 64 7 HO Hu
theorem QE (N O Q S T U X Y A:Fn) (J L:Rw) (E G:Int):Jd N O Q S T U X Y A [.vC [Kd.sl kPt,Kd.sl kInts,kI,kI,kI,kI,kI,kI,kI] J, .vC [Kd.sl kPt,Kd.sl kInts,kI,kI,kI,kI,kI,kI,kI] L,I E,I G]=
 cond (decide (G<E)) ((A [.vC [Kd.sl kPt,Kd.sl kInts,kI,kI,kI,kI,kI,kI,kI] J, .vC [Kd.sl kPt,Kd.sl kInts,kI,kI,kI,kI,kI,kI,kI] L,I E,I G]).bind λD=>
 cond (bA D 0) (some (1,[B true])) (some (0,[.vC [Kd.sl kPt,Kd.sl kInts,kI,kI,kI,kI,kI,kI,kI] (wA D 1), .vC [Kd.sl kPt,Kd.sl kInts,kI,kI,kI,kI,kI,kI,kI] L,I E,I (V (G+1))]))) (some (2,[.vC [Kd.sl kPt,Kd.sl kInts,kI,kI,kI,kI,kI,kI,kI] J])):=by kernel_rfl
theorem LR (O Q S T U X Y Bp J:Fn) (N7:Lp) (G L E D:Rw) (N A:Int):Jw O Q S T U X Y Bp J N7 [.vC kPt G, .vC [Kd.sl kPt,Kd.sl kInts,kI,kI,kI,kI,kI,kI,kI] L, .vC kPt E, .vC [Kd.sl kPt,Kd.sl kInts,kI,kI,kI,kI,kI,kI,kI] D,I N,I A]=
 cond (decide (A<N)) (cond (decide (0<=A)&&decide (A<(D.length:Int))) (cond (((G++wA (nth [] D A.toNat) 0).length*24).ble 140737488355328) (cond (decide (0<=A)&&decide (A<(E.length:Int))) (cond (!(gA (nth [] E A.toNat) 0==gA (nth [] D A.toNat) 4&&(gA (nth [] E A.toNat) 1==gA (nth [] D A.toNat) 5&&(gA (nth [] E A.toNat) 2==gA (nth [] D A.toNat) 6&&true)))) (some (1,[B false])) (some (0,[.vC kPt (G++wA (nth [] D A.toNat) 0), .vC [Kd.sl kPt,Kd.sl kInts,kI,kI,kI,kI,kI,kI,kI] L, .vC kPt E, .vC [Kd.sl kPt,Kd.sl kInts,kI,kI,kI,kI,kI,kI,kI] D,I N,I (V (A+1))]))) (none)) (none)) (none)) (some (2,[.vC kPt G, .vC [Kd.sl kPt,Kd.sl kInts,kI,kI,kI,kI,kI,kI,kI] L])):=by kernel_rfl
theorem Uy (N O AR Bk Bu Br BC Bp Q:Fn) (N7 G:Lp) (E:Rw):Ka N O AR Bk Bu Br BC Bp Q N7 G [.vC [Kd.sl kPt,Kd.sl kInts,kI,kI,kI,kI,kI,kI,kI] E]=
 (Bp []).bind λS=>
 cond (!bA S 0) (some [B false]) (cond (decide ((E.length:Int)>40)) (some [B true]) (cond ((([]++E).length*104).ble 140737488355328) ((N7 [.vC [Kd.sl kPt,Kd.sl kInts,kI,kI,kI,kI,kI,kI,kI] ([]++E), .vC [Kd.sl kPt,Kd.sl kInts,kI,kI,kI,kI,kI,kI,kI] E,I (↑([]++E).length:Int),I 0]).bind λD=>
 cond (D.1.beq 1) (some [B (bA D.2 0)]) (cond (D.1.beq 2) ((Br [.vC [Kd.sl kPt,Kd.sl kInts,kI,kI,kI,kI,kI,kI,kI] (wA D.2 0)]).bind λJ=>
 cond ((↑(wA J 0).length:Int) !=(↑(wA D.2 0).length:Int)) (some [B false]) ((G [.vC kPt [], .vC [Kd.sl kPt,Kd.sl kInts,kI,kI,kI,kI,kI,kI,kI] (wA D.2 0), .vC kPt (wA J 0), .vC [Kd.sl kPt,Kd.sl kInts,kI,kI,kI,kI,kI,kI,kI] (wA D.2 0),I (↑(wA D.2 0).length:Int),I 0]).bind λA=>
 cond (A.1.beq 1) (some [B (bA A.2 0)]) (cond (A.1.beq 2) ((Bu [.vC [Kd.sl kPt,Kd.sl kInts,kI,kI,kI,kI,kI,kI,kI] (wA A.2 1)]).bind λT=>
 (Bk [.vC kPt (wA T 0), .vC kPt (wA A.2 0)]).bind λU=>
 cond (bA U 0) ((AR [.vC [Kd.sl kPt,Kd.sl kInts,kI,kI,kI,kI,kI,kI,kI] (wA A.2 1)]).bind λL=>
 cond (decide ((↑(wA A.2 1).length:Int)>0)) (cond (decide (0<=V ((↑(wA A.2 1).length:Int)-1))&&decide (V ((↑(wA A.2 1).length:Int)-1)<(↑(wA A.2 1).length:Int))) (cond (bA L 0==(Ad (nth .vD (nth [] (wA A.2 1) (V ((↑(wA A.2 1).length:Int)-1)).toNat) 2)==7)) ((O [.vC [Kd.sl kPt,Kd.sl kInts,kI,kI,kI,kI,kI,kI,kI] (wA A.2 1)]).bind λX=>
 (N [.vC [Kd.sl kPt,Kd.sl kInts,kI,kI,kI,kI,kI,kI,kI] (wA A.2 1)]).bind λY=>
 some [B ((Ah (nth .vD X 0)).toList==(Ah (nth .vD Y 0)).toList)]) (some [B false])) (none)) (cond (bA L 0==false) ((O [.vC [Kd.sl kPt,Kd.sl kInts,kI,kI,kI,kI,kI,kI,kI] (wA A.2 1)]).bind λa0=>
 (N [.vC [Kd.sl kPt,Kd.sl kInts,kI,kI,kI,kI,kI,kI,kI] (wA A.2 1)]).bind λa1=>
 some [B ((Ah (nth .vD a0 0)).toList==(Ah (nth .vD a1 0)).toList)]) (some [B false]))) (some [B false])) (none)))) (none))) (none))):=by kernel_rfl
def mBx:Fn:=mB1 BM
theorem T7:FnOK PG (G5 CV B2 B4 CM CX CZ BM mAw mBx) 7:=by
  refine⟨λp _ sk g h=>absurd h (by intro h;cases h),λp E sk g G=> ?_,λp _ sk g h=>absurd h (by intro h;cases h)⟩;have A:(cond (Nat.beq p.1 1) (some (skB1,gB1 mBx)) (none))=some (sk,g):=G;cases hb:Nat.beq p.1 1<;>rw[hb]at A
  · cases A
  · have e:=ab hb
    simp only[ac,ag,a8]at A;obtain⟨rfl,rfl⟩:=A;obtain⟨q,c⟩:=p;dsimp only at e;subst e;have J:AK ((Fm PG 7).map (·.1))=true:=by kernel_rfl
    have D:b1C=c:=by unfold b1C KZ;rw[Jl (k:=1) (b:=c) J E]
    show C3 PG (.block 1 c) skB1 _;rw[<-D];exact RV J6
def Fy:=AD (Jd CV B2 B4 CM CX CZ BM mAw mBx)
def H_:=AD (Jw CV B2 B4 CM CX CZ BM mAw mBx Fy)
def NG:=Ka CV B2 B4 CM CX CZ BM mAw mBx Fy H_
theorem HL:Ak PG (G5 CV B2 B4 CM CX CZ BM mAw mBx):=BY rfl ⟨Pa,KG,Lk,Q3,SZ,Qf,J6,rAw,trivial⟩
theorem RU:∀(args:List TV) (v:TV) (mem:Mem),(Aj HO Hu NG (TV×Mem) args ⟨[],[]⟩ λv m=>some (v,m))=some (v,mem)->PCallM PG 7 args ⟨[],[]⟩ v mem:=λargs v mem h=>UA (f:=7) (C:=J2 CV B2 B4 CM CX CZ BM mAw mBx Fy H_) (L:=64) (by kernel_rfl) (((T7).loop HL eqOk CI (by kernel_rfl) (by kernel_rfl)).loop HL eqOk CI (by kernel_rfl) (by kernel_rfl)) HL eqOk CI (by kernel_rfl) (by kernel_rfl) args v mem h
end Go.Bm
