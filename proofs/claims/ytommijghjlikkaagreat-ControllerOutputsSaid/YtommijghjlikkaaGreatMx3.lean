/- functions of the program and of the references, as models -/
import Derived.Test.YtommijghjlikkaaGreatMx2
set_option linter.unusedSimpArgs false
set_option linter.unusedVariables false
set_option maxRecDepth 100000
noncomputable section
namespace Go.Bm
open Go.Proofs
abbrev Qas (D:List AC) (N:Fn) (x:Ax3) (t:Trk) (E:AC) (J:List AC) (O:Fn) (G:AC):Option (List AC):=
 bif decide (gA D 0<0)then
 (N [I x.c.step,I x.c.speed,I x.c.accel,I x.c.jerk,I x.c.low,I x.c.high,I x.c.back,I x.c.origin,I x.c.spacing, .view Aa (x.c.pitch.map Ao),I t.dirs.z]).bind λL=>
 some [E,G,I (IntKind.i64.wrap (gA J 2+gA L 0))]
 else
 bif decide (0<=gA D 0)&&decide (gA D 0<((t.aD.map AI).length:Int))then
 (O (I x.c.step::I x.c.speed::I x.c.accel::I x.c.jerk::I x.c.low::I x.c.high::I x.c.back::I x.c.origin::I x.c.spacing:: .view Aa (x.c.pitch.map Ao)::(AT Aq (nth [] (t.aD.map AI) (gA D 0).toNat)++[I (IntKind.i64.wrap (IntKind.i64.wrap (0+1)+1)),jA D 1]))).bind λM=>
 some [E,G,I (IntKind.i64.wrap (gA J 2+gA M 0))]
 else
 none
abbrev Zh7 (D:List AC) (J:Fn) (x:Ax3) (t:Trk) (E:List AC) (L:Fn) (G:AC):Option (List AC):=
 bif decide (gA D 0<0)then
 (J [I x.b.step,I x.b.speed,I x.b.accel,I x.b.jerk,I x.b.low,I x.b.high,I x.b.back,I x.b.origin,I x.b.spacing, .view Aa (x.b.pitch.map Ao),I t.dirs.y]).bind λM=>
 Qas D J x t G E L (I (IntKind.i64.wrap (gA E 1+gA M 0)))
 else
 bif decide (0<=gA D 0)&&decide (gA D 0<((t.aD.map AI).length:Int))then
 (L (I x.b.step::I x.b.speed::I x.b.accel::I x.b.jerk::I x.b.low::I x.b.high::I x.b.back::I x.b.origin::I x.b.spacing:: .view Aa (x.b.pitch.map Ao)::(AT Aq (nth [] (t.aD.map AI) (gA D 0).toNat)++[I (IntKind.i64.wrap (0+1)),jA D 1]))).bind λN=>
 Qas D J x t G E L (I (IntKind.i64.wrap (gA E 1+gA N 0)))
 else
 none
attribute [go_sem] Qas Zh7
end Go.Bm
