/- functions of the program and of the references, as models -/
import Derived.Test.YtommijghjlikkaaGreatMx2
set_option linter.unusedSimpArgs false
set_option linter.unusedVariables false
set_option maxRecDepth 100000
noncomputable section
open Go.IntKind (wrap)
namespace Go.Bm
open Go.Proofs
abbrev Q61 (E:Int) (G:Fn) (J M N O S T U V X:Int) (Y:Rw) (a0 a1 a2:Int):Option (List AC):=
 cond (decide (E=(↑0:Int))) ((G [I J,I M,I N,I O,I S,I T,I U,I V,I X, .vC Aa Y,I a0]).bind λa3=>
 some [jA a3 0]) (cond (decide (E=(↑(0+1):Int))) ((G [I J,I M,I N,I O,I S,I T,I U,I V,I X, .vC Aa Y,I a1]).bind λa4=>
 some [jA a4 0]) (cond (decide (E=(↑(0+1+1):Int))) ((G [I J,I M,I N,I O,I S,I T,I U,I V,I X, .vC Aa Y,I a2]).bind λa5=>
 some [jA a5 0]) (none)))
abbrev TM (E G M:Int) (J:Bool):Option (List AC):=
 cond (J) (some [I (V (0-mn (V (E-G)) M))]) (some [I (V (mn (V (E-G)) M-M))])
abbrev Vq (E:Int) (T:Fn) (U V X Y x4 x5 S x7 x8:Int) (x9:Rw) (J M N G I:Int) (O:Bool):Option (List AC):=
 cond (O) (Q61 E T U V X Y x4 x5 S x7 x8 x9 J M N) (cond (decide (E=(↑0:Int))) (TM G I S (J== -1)) (cond (decide (E=(↑(0+1):Int))) (TM G I S (M== -1)) (cond (decide (E=(↑(0+1+1):Int))) (TM G I S (N== -1)) (none))))
abbrev Zxx (E:Int) (U:Fn) (V X Y x3 x4 x5 x6 x7 x8:Int) (x9:Rw) (G I J M N:Int) (O S T:Bool):Option (List AC):=
 cond (decide (E=(↑0:Int))) (Vq E U V X Y x3 x4 x5 x6 x7 x8 x9 G I J M N O) (cond (decide (E=(↑(0+1):Int))) (Vq E U V X Y x3 x4 x5 x6 x7 x8 x9 G I J M N S) (cond (decide (E=(↑(0+1+1):Int))) (Vq E U V X Y x3 x4 x5 x6 x7 x8 x9 G I J M N T) (none)))
abbrev Qb0 (E:List AC) (S:Fn) (x:Ax3) (t:Trk) (G:AC) (M:List AC) (T:Fn) (J:AC):Option (List AC):=
 cond (decide (gA E 0<0)) ((S [I x.c.step,I x.c.aS,I x.c.accel,I x.c.jerk,I x.c.low,I x.c.aY,I x.c.bB,I x.c.aV,I x.c.aO, .vC Aa (x.c.aW.map Ao),I t.aT.z]).bind λN=>
 some [G,J,I (V (gA M 2+gA N 0))]) (cond (decide (0<=gA E 0)&&decide (gA E 0<((t.aE.map AN).length:Int))) ((T (I x.c.step::I x.c.aS::I x.c.accel::I x.c.jerk::I x.c.low::I x.c.aY::I x.c.bB::I x.c.aV::I x.c.aO:: .vC Aa (x.c.aW.map Ao)::(AT As (nth [] (t.aE.map AN) (gA E 0).toNat)++[I (V (V (0+1)+1)),jA E 1]))).bind λO=>
 some [G,J,I (V (gA M 2+gA O 0))]) (none))
abbrev Zi9 (E:List AC) (M:Fn) (x:Ax3) (t:Trk) (G:List AC) (N:Fn) (J:AC):Option (List AC):=
 cond (decide (gA E 0<0)) ((M [I x.b.step,I x.b.aS,I x.b.accel,I x.b.jerk,I x.b.low,I x.b.aY,I x.b.bB,I x.b.aV,I x.b.aO, .vC Aa (x.b.aW.map Ao),I t.aT.y]).bind λO=>
 Qb0 E M x t J G N (I (V (gA G 1+gA O 0)))) (cond (decide (0<=gA E 0)&&decide (gA E 0<((t.aE.map AN).length:Int))) ((N (I x.b.step::I x.b.aS::I x.b.accel::I x.b.jerk::I x.b.low::I x.b.aY::I x.b.bB::I x.b.aV::I x.b.aO:: .vC Aa (x.b.aW.map Ao)::(AT As (nth [] (t.aE.map AN) (gA E 0).toNat)++[I (V (0+1)),jA E 1]))).bind λS=>
 Qb0 E M x t J G N (I (V (gA G 1+gA S 0)))) (none))
attribute [go_sem] Q61 TM Vq Zxx Qb0 Zi9
end Go.Bm
