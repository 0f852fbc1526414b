/- the abstract machine -/
import Derived.Test.YtnnpdlgenmnekaaGreatDoorBmKit
set_option linter.unusedVariables false
set_option linter.unusedSimpArgs false
namespace Go.Bm
structure Pt where
 (x y z:Int)
structure Itm where
 (aP block:Int)
 (fr to:Pt)
 (aG:Int)
 (ce:Pt)
 (dir:Int)
 bI:Bool
 aZ:Int
 perRev:Bool
 (side radius bJ n aS:Int)
 on:Bool
structure Sgm where
 to:Pt
 (len aU aZ aX:Int)
structure Mrk where
 (at_ aP aU:Int)
structure Pth where
 aQ:Pt
 aF:List Sgm
 aD:List Mrk
structure Axs where
 (step aS bF bG low aY bB aV aO:Int)
 aW:List Int
structure Pce where
 (at_ aR s bD:Int)
 (was aT:Pt)
structure Trk where
 aE:List Pce
 (length aQ:Int)
 aT:Pt
structure Spk where
 (u w r h:Int)
instance:DecidableEq Pt:=λa b=>by
 obtain⟨a1,a2,a3⟩:=a;obtain⟨b1,b2,b3⟩:=b;exact decidable_of_iff (a1=b1/\a2=b2/\a3=b3) (by simp)
instance:DecidableEq Sgm:=λa b=>by
 obtain⟨a1,a2,a3,a4,a5⟩:=a;obtain⟨b1,b2,b3,b4,b5⟩:=b;exact decidable_of_iff (a1=b1/\a2=b2/\a3=b3/\a4=b4/\a5=b5) (by simp)
instance:DecidableEq Mrk:=λa b=>by
 obtain⟨a1,a2,a3⟩:=a;obtain⟨b1,b2,b3⟩:=b;exact decidable_of_iff (a1=b1/\a2=b2/\a3=b3) (by simp)
instance:DecidableEq Pce:=λa b=>by
 obtain⟨a1,a2,a3,a4,a5,a6⟩:=a;obtain⟨b1,b2,b3,b4,b5,b6⟩:=b;exact decidable_of_iff (a1=b1/\a2=b2/\a3=b3/\a4=b4/\a5=b5/\a6=b6) (by simp)
abbrev kI:Kd:= .int .i64
abbrev kB:Kd:= .bool
abbrev Aa:List Kd:=[kI]
abbrev kPt:List Kd:=[kI,kI,kI]
abbrev Ai:List Kd:=[kI,kI,kI,kI,kI,kI,kI,kI,kI,kI,kI,kI,kI,kB,kI,kB,kI,kI,kI,kI,kI,kB]
abbrev Ag:List Kd:=[kI,kI,kI,kI,kI,kI,kI]
abbrev AD:List Kd:=[kI,kI,kI]
abbrev Ap:List Kd:=[kI,kI,kI,kI,kI,kI,kI,kI,kI,kI]
abbrev DZ:List Kd:=[kI,kI,kI,kI]
abbrev ptR (p:Pt):List AC:=[I p.x,I p.y,I p.z]
abbrev Ah (t:Itm):List AC:=[I t.aP,I t.block,I t.fr.x,I t.fr.y,I t.fr.z,I t.to.x,I t.to.y,I t.to.z,I t.aG,I t.ce.x,I t.ce.y,I t.ce.z,I t.dir,B t.bI,I t.aZ,B t.perRev,I t.side,I t.radius,I t.bJ,I t.n,I t.aS,B t.on]
abbrev Aw (g:Sgm):List AC:=[I g.to.x,I g.to.y,I g.to.z,I g.len,I g.aU,I g.aZ,I g.aX]
abbrev At (m:Mrk):List AC:=[I m.at_,I m.aP,I m.aU]
abbrev AG (c:Pce):List AC:=[I c.at_,I c.aR,I c.s,I c.bD,I c.was.x,I c.was.y,I c.was.z,I c.aT.x,I c.aT.y,I c.aT.z]
abbrev C2 (s:Spk):List AC:=[I s.u,I s.w,I s.r,I s.h]
abbrev Bk (p:Pth):List AC:=[I p.aQ.x,I p.aQ.y,I p.aQ.z, .vC Ag (p.aF.map Aw), .vC AD (p.aD.map At)]
abbrev Bn (x:Axs):List AC:=[I x.step,I x.aS,I x.bF,I x.bG,I x.low,I x.aY,I x.bB,I x.aV,I x.aO, .vC Aa (x.aW.map As)]
abbrev A0 (t:Trk):List AC:=[.vC Ap (t.aE.map AG),I t.length,I t.aQ,I t.aT.x,I t.aT.y,I t.aT.z]
structure Ax3 where
 (a b c:Axs)
abbrev AI (x:Ax3):List AC:=[I x.a.step,I x.a.aS,I x.a.bF,I x.a.bG,I x.a.low,I x.a.aY,I x.a.bB,I x.a.aV,I x.a.aO, .vC Aa (x.a.aW.map As),I x.b.step,I x.b.aS,I x.b.bF,I x.b.bG,I x.b.low,I x.b.aY,I x.b.bB,I x.b.aV,I x.b.aO, .vC Aa (x.b.aW.map As),I x.c.step,I x.c.aS,I x.c.bF,I x.c.bG,I x.c.low,I x.c.aY,I x.c.bB,I x.c.aV,I x.c.aO, .vC Aa (x.c.aW.map As)]
abbrev pxt (p:Pth) (x:Ax3) (t:Trk) (l:List AC):List AC:=
 I p.aQ.x::I p.aQ.y::I p.aQ.z:: .vC Ag (p.aF.map Aw):: .vC kPt (p.aD.map At)::
 I x.a.step::I x.a.aS::I x.a.bF::I x.a.bG::I x.a.low::I x.a.aY::I x.a.bB::I x.a.aV::I x.a.aO:: .vC Aa (x.a.aW.map As)::
 I x.b.step::I x.b.aS::I x.b.bF::I x.b.bG::I x.b.low::I x.b.aY::I x.b.bB::I x.b.aV::I x.b.aO:: .vC Aa (x.b.aW.map As)::
 I x.c.step::I x.c.aS::I x.c.bF::I x.c.bG::I x.c.low::I x.c.aY::I x.c.bB::I x.c.aV::I x.c.aO:: .vC Aa (x.c.aW.map As)::
 .vC Ap (t.aE.map AG)::I t.length::I t.aQ::I t.aT.x::I t.aT.y::I t.aT.z::l
abbrev EQ (p:Pth) (t:Trk) (l:List AC):List AC:=
 I p.aQ.x::I p.aQ.y::I p.aQ.z:: .vC Ag (p.aF.map Aw):: .vC kPt (p.aD.map At)::
 .vC Ap (t.aE.map AG)::I t.length::I t.aQ::I t.aT.x::I t.aT.y::I t.aT.z::l
theorem Zsd {a:AC} (h:okC kI a):i64 (Af a):=by
 unfold okC at h;unfold i64;exact h
abbrev gA (l:List AC) (k:Nat):Int:=Af (nth .vD l k)
abbrev jA (l:List AC) (k:Nat):AC:= .int .i64 (Af (nth .vD l k))
abbrev wA (l:List AC) (k:Nat):List (List AC):=Bp (nth .vD l k)
abbrev bA (l:List AC) (k:Nat):Bool:=Df (nth .vD l k)
abbrev Fn:=List AC->Option (List AC)
abbrev Lp:=List AC->Option (Nat×List AC)
abbrev Rw:=List (List AC)
abbrev ci:CS:= .int .i64
abbrev tf:List CS->TS:= .v false
abbrev td:TS:= .vD
attribute [go_sem] gA jA wA bA ba ax
theorem Z4n (r:List AC):AM Ai r=[jA r 0,jA r 1,jA r 2,jA r 3,jA r 4,jA r 5,jA r 6,jA r 7,jA r 8,jA r 9,jA r 10,jA r 11,jA r 12,B (bA r 13),jA r 14,B (bA r 15),jA r 16,jA r 17,jA r 18,jA r 19,jA r 20,B (bA r 21)]:=rfl
theorem Z3n (r:List AC):AM Ag r=[jA r 0,jA r 1,jA r 2,jA r 3,jA r 4,jA r 5,jA r 6]:=rfl
theorem Zp0 (r:List AC):AM Ap r=[jA r 0,jA r 1,jA r 2,jA r 3,jA r 4,jA r 5,jA r 6,jA r 7,jA r 8,jA r 9]:=rfl
attribute [go_sem] Z4n Z3n Zp0
end Go.Bm
