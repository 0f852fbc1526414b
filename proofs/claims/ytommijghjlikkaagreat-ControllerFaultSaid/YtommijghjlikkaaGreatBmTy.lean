/- The program's types as plain structures, and the cells that stand for their values. -/
import Derived.Test.YtommijghjlikkaaGreatBmKit
set_option linter.unusedVariables false
set_option linter.unusedSimpArgs false
namespace Go.Bm
structure Pt where
 (x y z:Int)
structure Itm where
 (kind block:Int)
 (fr to:Pt)
 (plane:Int)
 (ce:Pt)
 (dir:Int)
 full:Bool
 feed:Int
 perRev:Bool
 (side radius blend n speed:Int)
 on:Bool
structure Sgm where
 to:Pt
 (len item feed lead:Int)
structure Mrk where
 (at_ kind item:Int)
structure Pth where
 start:Pt
 segs:List Sgm
 marks:List Mrk
structure Axs where
 (step speed accel jerk low high back origin spacing:Int)
 pitch:List Int
structure Pce where
 (at_ units s move:Int)
 (was dirs:Pt)
structure Trk where
 pieces:List Pce
 (length start:Int)
 dirs:Pt
structure Spk where
 (u w r h:Int)
instance:DecidableEq Pt:=fun a b=>by
 obtain⟨a1,a2,a3⟩:=a;obtain⟨b1,b2,b3⟩:=b;exact decidable_of_iff (a1=b1/\a2=b2/\a3=b3) (by simp)
instance:DecidableEq Sgm:=fun a b=>by
 obtain⟨a1,a2,a3,a4,a5⟩:=a;obtain⟨b1,b2,b3,b4,b5⟩:=b;exact decidable_of_iff (a1=b1/\a2=b2/\a3=b3/\a4=b4/\a5=b5) (by simp)
instance:DecidableEq Mrk:=fun a b=>by
 obtain⟨a1,a2,a3⟩:=a;obtain⟨b1,b2,b3⟩:=b;exact decidable_of_iff (a1=b1/\a2=b2/\a3=b3) (by simp)
instance:DecidableEq Pce:=fun a b=>by
 obtain⟨a1,a2,a3,a4,a5,a6⟩:=a;obtain⟨b1,b2,b3,b4,b5,b6⟩:=b;exact decidable_of_iff (a1=b1/\a2=b2/\a3=b3/\a4=b4/\a5=b5/\a6=b6) (by simp)
abbrev kI:Kd:= .int .i64
abbrev kB:Kd:= .bool
abbrev Aa:List Kd:=[kI]
abbrev kPt:List Kd:=[kI,kI,kI]
abbrev Ak:List Kd:=[kI,kI,kI,kI,kI,kI,kI,kI,kI,kI,kI,kI,kI,kB,kI,kB,kI,kI,kI,kI,kI,kB]
abbrev Ah:List Kd:=[kI,kI,kI,kI,kI,kI,kI]
abbrev AD:List Kd:=[kI,kI,kI]
abbrev As:List Kd:=[kI,kI,kI,kI,kI,kI,kI,kI,kI,kI]
abbrev DV:List Kd:=[kI,kI,kI,kI]
abbrev ptR (p:Pt):List AC:=[I p.x,I p.y,I p.z]
abbrev Ag (t:Itm):List AC:=[I t.kind,I t.block,I t.fr.x,I t.fr.y,I t.fr.z,I t.to.x,I t.to.y,I t.to.z,I t.plane,I t.ce.x,I t.ce.y,I t.ce.z,I t.dir,B t.full,I t.feed,B t.perRev,I t.side,I t.radius,I t.blend,I t.n,I t.speed,B t.on]
abbrev Ay (g:Sgm):List AC:=[I g.to.x,I g.to.y,I g.to.z,I g.len,I g.item,I g.feed,I g.lead]
abbrev At (m:Mrk):List AC:=[I m.at_,I m.kind,I m.item]
abbrev AP (c:Pce):List AC:=[I c.at_,I c.units,I c.s,I c.move,I c.was.x,I c.was.y,I c.was.z,I c.dirs.x,I c.dirs.y,I c.dirs.z]
abbrev CU (s:Spk):List AC:=[I s.u,I s.w,I s.r,I s.h]
abbrev By (p:Pth):List AC:=[I p.start.x,I p.start.y,I p.start.z, .view Ah (p.segs.map Ay), .view AD (p.marks.map At)]
abbrev Bh (x:Axs):List AC:=[I x.step,I x.speed,I x.accel,I x.jerk,I x.low,I x.high,I x.back,I x.origin,I x.spacing, .view Aa (x.pitch.map Ap)]
abbrev Bj (t:Trk):List AC:=[.view As (t.pieces.map AP),I t.length,I t.start,I t.dirs.x,I t.dirs.y,I t.dirs.z]
structure Ax3 where
 (a b c:Axs)
abbrev AI (x:Ax3):List AC:=[I x.a.step,I x.a.speed,I x.a.accel,I x.a.jerk,I x.a.low,I x.a.high,I x.a.back,I x.a.origin,I x.a.spacing, .view Aa (x.a.pitch.map Ap),I x.b.step,I x.b.speed,I x.b.accel,I x.b.jerk,I x.b.low,I x.b.high,I x.b.back,I x.b.origin,I x.b.spacing, .view Aa (x.b.pitch.map Ap),I x.c.step,I x.c.speed,I x.c.accel,I x.c.jerk,I x.c.low,I x.c.high,I x.c.back,I x.c.origin,I x.c.spacing, .view Aa (x.c.pitch.map Ap)]
abbrev pxt (p:Pth) (x:Ax3) (t:Trk) (l:List AC):List AC:=
 I p.start.x::I p.start.y::I p.start.z:: .view Ah (p.segs.map Ay):: .view kPt (p.marks.map At)::
 I x.a.step::I x.a.speed::I x.a.accel::I x.a.jerk::I x.a.low::I x.a.high::I x.a.back::I x.a.origin::I x.a.spacing:: .view Aa (x.a.pitch.map Ap)::
 I x.b.step::I x.b.speed::I x.b.accel::I x.b.jerk::I x.b.low::I x.b.high::I x.b.back::I x.b.origin::I x.b.spacing:: .view Aa (x.b.pitch.map Ap)::
 I x.c.step::I x.c.speed::I x.c.accel::I x.c.jerk::I x.c.low::I x.c.high::I x.c.back::I x.c.origin::I x.c.spacing:: .view Aa (x.c.pitch.map Ap)::
 .view As (t.pieces.map AP)::I t.length::I t.start::I t.dirs.x::I t.dirs.y::I t.dirs.z::l
abbrev Df (p:Pth) (t:Trk) (l:List AC):List AC:=
 I p.start.x::I p.start.y::I p.start.z:: .view Ah (p.segs.map Ay):: .view kPt (p.marks.map At)::
 .view As (t.pieces.map AP)::I t.length::I t.start::I t.dirs.x::I t.dirs.y::I t.dirs.z::l
theorem Q89 {a:AC} (h:okC kI a):i64 (Af a):=by
 unfold okC at h;unfold i64;exact h
abbrev gA (l:List AC) (k:Nat):Int:=Af (nth .dead l k)
abbrev jA (l:List AC) (k:Nat):AC:= .int .i64 (Af (nth .dead l k))
abbrev wA (l:List AC) (k:Nat):List (List AC):=BL (nth .dead l k)
abbrev bA (l:List AC) (k:Nat):Bool:=CV (nth .dead l k)
abbrev Fn:=List AC->Option (List AC)
abbrev Lp:=List AC->Option (Nat×List AC)
abbrev Rw:=List (List AC)
abbrev ci:CS:= .int .i64
abbrev tf:List CS->TS:= .v false
abbrev td:TS:= .dead
attribute [go_sem] gA jA wA bA List.cons_append List.nil_append
theorem Zcw (r:List AC):AJ Ak r=[jA r 0,jA r 1,jA r 2,jA r 3,jA r 4,jA r 5,jA r 6,jA r 7,jA r 8,jA r 9,jA r 10,jA r 11,jA r 12,B (bA r 13),jA r 14,B (bA r 15),jA r 16,jA r 17,jA r 18,jA r 19,jA r 20,B (bA r 21)]:=rfl
theorem Qp7 (r:List AC):AJ Ah r=[jA r 0,jA r 1,jA r 2,jA r 3,jA r 4,jA r 5,jA r 6]:=rfl
theorem Z32 (r:List AC):AJ As r=[jA r 0,jA r 1,jA r 2,jA r 3,jA r 4,jA r 5,jA r 6,jA r 7,jA r 8,jA r 9]:=rfl
attribute [go_sem] Zcw Qp7 Z32
end Go.Bm
