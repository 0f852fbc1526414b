/- functions of the program and of the references, as models -/
import Derived.Test.YtommijghjlikkaaGreatMx2
set_option linter.unusedSimpArgs false
set_option linter.unusedVariables false
set_option maxRecDepth 100000
noncomputable section
namespace Go.Bm
open Go.Proofs
abbrev Qjy (o19:List AC) (Fh:Fn) (x:Ax3) (t:Trk) (h1_0:AC) (o18:List AC) (P2:Fn) (h2_0:AC):Option (List AC):=
 bif decide (gA o19 0<0)then
 (Fh [I x.c.step,I x.c.speed,I x.c.accel,I x.c.jerk,I x.c.low,I x.c.high,I x.c.back,I x.c.origin,I x.c.spacing, .view Aa (x.c.pitch.map As),I t.dirs.z]).bind λo22=>
 some [h1_0,h2_0,I (IntKind.i64.wrap (gA o18 2+gA o22 0))]
 else
 bif decide (0<=gA o19 0)&&decide (gA o19 0<((t.aE.map AB).length:Int))then
 (P2 (I x.c.step::I x.c.speed::I x.c.accel::I x.c.jerk::I x.c.low::I x.c.high::I x.c.back::I x.c.origin::I x.c.spacing:: .view Aa (x.c.pitch.map As)::(AN Ap (nth [] (t.aE.map AB) (gA o19 0).toNat)++[I (IntKind.i64.wrap (IntKind.i64.wrap (0+1)+1)),jA o19 1]))).bind λo23=>
 some [h1_0,h2_0,I (IntKind.i64.wrap (gA o18 2+gA o23 0))]
 else
 none
abbrev Zh2 (o19:List AC) (Fh:Fn) (x:Ax3) (t:Trk) (o18:List AC) (P2:Fn) (h1_0:AC):Option (List AC):=
 bif decide (gA o19 0<0)then
 (Fh [I x.b.step,I x.b.speed,I x.b.accel,I x.b.jerk,I x.b.low,I x.b.high,I x.b.back,I x.b.origin,I x.b.spacing, .view Aa (x.b.pitch.map As),I t.dirs.y]).bind λo21=>
 Qjy o19 Fh x t h1_0 o18 P2 (I (IntKind.i64.wrap (gA o18 1+gA o21 0)))
 else
 bif decide (0<=gA o19 0)&&decide (gA o19 0<((t.aE.map AB).length:Int))then
 (P2 (I x.b.step::I x.b.speed::I x.b.accel::I x.b.jerk::I x.b.low::I x.b.high::I x.b.back::I x.b.origin::I x.b.spacing:: .view Aa (x.b.pitch.map As)::(AN Ap (nth [] (t.aE.map AB) (gA o19 0).toNat)++[I (IntKind.i64.wrap (0+1)),jA o19 1]))).bind λo24=>
 Qjy o19 Fh x t h1_0 o18 P2 (I (IntKind.i64.wrap (gA o18 1+gA o24 0)))
 else
 none
attribute [go_sem] Qjy Zh2
end Go.Bm
