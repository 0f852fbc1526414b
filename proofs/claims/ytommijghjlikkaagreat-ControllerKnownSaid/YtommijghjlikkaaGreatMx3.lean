/- functions of the program and of the references, as models -/
import Derived.Test.YtommijghjlikkaaGreatMx2
set_option linter.unusedSimpArgs false
set_option linter.unusedVariables false
set_option maxRecDepth 100000
noncomputable section
namespace Go.Bm
open Go.Proofs
abbrev Qdm (o19:List AC) (Fu:Fn) (x:Ax3) (t:Trk) (h1_0:AC) (o18:List AC) (QQ:Fn) (h2_0:AC):Option (List AC):=
 bif decide (gA o19 0<0)then
 (Fu [I x.c.step,I x.c.speed,I x.c.accel,I x.c.jerk,I x.c.low,I x.c.high,I x.c.back,I x.c.origin,I x.c.spacing, .view Aa (x.c.pitch.map Aq),I t.dirs.z]).bind λo22=>
 some [h1_0,h2_0,I (IntKind.i64.wrap (gA o18 2+gA o22 0))]
 else
 bif decide (0<=gA o19 0)&&decide (gA o19 0<((t.aD.map AL).length:Int))then
 (QQ (I x.c.step::I x.c.speed::I x.c.accel::I x.c.jerk::I x.c.low::I x.c.high::I x.c.back::I x.c.origin::I x.c.spacing:: .view Aa (x.c.pitch.map Aq)::(AN At (nth [] (t.aD.map AL) (gA o19 0).toNat)++[I (IntKind.i64.wrap (IntKind.i64.wrap (0+1)+1)),jA o19 1]))).bind λo23=>
 some [h1_0,h2_0,I (IntKind.i64.wrap (gA o18 2+gA o23 0))]
 else
 none
abbrev Zkd (o19:List AC) (Fu:Fn) (x:Ax3) (t:Trk) (o18:List AC) (QQ:Fn) (h1_0:AC):Option (List AC):=
 bif decide (gA o19 0<0)then
 (Fu [I x.b.step,I x.b.speed,I x.b.accel,I x.b.jerk,I x.b.low,I x.b.high,I x.b.back,I x.b.origin,I x.b.spacing, .view Aa (x.b.pitch.map Aq),I t.dirs.y]).bind λo21=>
 Qdm o19 Fu x t h1_0 o18 QQ (I (IntKind.i64.wrap (gA o18 1+gA o21 0)))
 else
 bif decide (0<=gA o19 0)&&decide (gA o19 0<((t.aD.map AL).length:Int))then
 (QQ (I x.b.step::I x.b.speed::I x.b.accel::I x.b.jerk::I x.b.low::I x.b.high::I x.b.back::I x.b.origin::I x.b.spacing:: .view Aa (x.b.pitch.map Aq)::(AN At (nth [] (t.aD.map AL) (gA o19 0).toNat)++[I (IntKind.i64.wrap (0+1)),jA o19 1]))).bind λo24=>
 Qdm o19 Fu x t h1_0 o18 QQ (I (IntKind.i64.wrap (gA o18 1+gA o24 0)))
 else
 none
attribute [go_sem] Qdm Zkd
end Go.Bm
