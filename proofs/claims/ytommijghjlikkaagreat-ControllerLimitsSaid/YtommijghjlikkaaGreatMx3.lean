/- functions of the program and of the references, as models -/
import Derived.Test.YtommijghjlikkaaGreatMx2
set_option linter.unusedSimpArgs false
set_option linter.unusedVariables false
set_option maxRecDepth 100000
noncomputable section
namespace Go.Bm
open Go.Proofs
abbrev Qcj (D:List AC) (N:Fn) (x:Ax3) (t:Trk) (E:AC) (J:List AC) (O:Fn) (G:AC):Option (List AC):=
 cond (decide (gA D 0<0)) ((N [I x.c.step,I x.c.aS,I x.c.bF,I x.c.bG,I x.c.low,I x.c.aY,I x.c.bB,I x.c.aV,I x.c.aO, .vC Aa (x.c.aW.map Ai),I t.aT.z]).bind λL=>
 some [E,G,I (V (gA J 2+gA L 0))]) (cond (decide (0<=gA D 0)&&decide (gA D 0<((t.aE.map AM).length:Int))) ((O (I x.c.step::I x.c.aS::I x.c.bF::I x.c.bG::I x.c.low::I x.c.aY::I x.c.bB::I x.c.aV::I x.c.aO:: .vC Aa (x.c.aW.map Ai)::(AV At (nth [] (t.aE.map AM) (gA D 0).toNat)++[I (V (V (0+1)+1)),jA D 1]))).bind λM=>
 some [E,G,I (V (gA J 2+gA M 0))]) (none))
abbrev Zk9 (D:List AC) (J:Fn) (x:Ax3) (t:Trk) (E:List AC) (L:Fn) (G:AC):Option (List AC):=
 cond (decide (gA D 0<0)) ((J [I x.b.step,I x.b.aS,I x.b.bF,I x.b.bG,I x.b.low,I x.b.aY,I x.b.bB,I x.b.aV,I x.b.aO, .vC Aa (x.b.aW.map Ai),I t.aT.y]).bind λM=>
 Qcj D J x t G E L (I (V (gA E 1+gA M 0)))) (cond (decide (0<=gA D 0)&&decide (gA D 0<((t.aE.map AM).length:Int))) ((L (I x.b.step::I x.b.aS::I x.b.bF::I x.b.bG::I x.b.low::I x.b.aY::I x.b.bB::I x.b.aV::I x.b.aO:: .vC Aa (x.b.aW.map Ai)::(AV At (nth [] (t.aE.map AM) (gA D 0).toNat)++[I (V (0+1)),jA D 1]))).bind λN=>
 Qcj D J x t G E L (I (V (gA E 1+gA N 0)))) (none))
attribute [go_sem] Qcj Zk9
end Go.Bm
