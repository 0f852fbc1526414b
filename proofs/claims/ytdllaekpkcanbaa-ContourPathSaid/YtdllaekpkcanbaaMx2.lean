/- functions of the program and of the references, as models -/
import Derived.Test.YtdllaekpkcanbaaMx1
set_option linter.unusedSimpArgs false
set_option linter.unusedVariables false
set_option maxRecDepth 100000
noncomputable section
namespace Go.Bm
open Go.Proofs
def Qdh : Sk := { tmps := [tf [CS.ptr 20000 0], tf [ci]], boxes := [(20000, 138, [CS.sl Qax, ci])], rows := [] }
def Qc7 : Sk := { tmps := [tf [ci]], boxes := [(20000, 138, [CS.sl Qax, ci])], rows := [] }
def Qhc (Qbn : Fn) : Cfg := { spec := Qbq [(23, spOf Qoa Qlb Qbn)], eqOk := Qbw, ownOff := ownOff }
def Qil (Qbn : Fn) : Fn := Qat Try.prog (Qhc Qbn) 64 61 Qdh Qc7
theorem mf_cncmill_Source_Next_eq (Qbn : Fn) (x0 : Int) (x1 : Rw) (x2 : Int) : Qil Qbn [I x0, .view Qax x1, I x2] =
 bif decide (x2 >= (x1.length : Int)) then
 some [I 0, .view Qax x1, I x2]
 else
 bif decide (0 <= x2) && decide (x2 < (x1.length : Int)) then
 (Qbn [jA (nth [] x1 x2.toNat) 0, I x0]).bind fun o1 =>
 some [jA o1 0, .view Qax x1, I (IntKind.i64.wrap (x2 + 1))]
 else
 none := by kernel_rfl
def Qas := Qil Qep 
theorem sp_cncmill_Source_Next : Qan Try.prog (Qhc Qep) := Qad rfl ⟨r_cncmill_Mod, trivial⟩
theorem Qgf : Qbv Try.prog (61, spOf Qdh Qc7 Qas) := Qa7 (C := (Qhc Qep)) (L := 64) (by kernel_rfl) (FnOK.bare rfl rfl rfl) sp_cncmill_Source_Next eqOk Qbo (by kernel_rfl) (by kernel_rfl)
def sig_cncmill_arc : Sk := { tmps := [tf [CS.ptr 20000 0], TS.v true [ci, ci, ci], tf [ci]], boxes := [(20000, 138, [CS.sl Qax, ci])], rows := [] }
def osig_cncmill_arc : Sk := { tmps := [TS.v true [ci, ci, ci, ci, ci, ci, ci, ci, ci, ci, ci, ci, ci, CS.bool, ci, CS.bool, ci, ci, ci, ci, ci, CS.bool]], boxes := [(20000, 138, [CS.sl Qax, ci])], rows := [] }
def C_cncmill_arc_0 (Qcz Qe0 Qf3 Qaa : Fn) : Cfg := { spec := Qbq [(65, spOf Qoo Qln Qcz), (112, spOf Qnh Qlx Qe0), (64, spOf Qm6 Qma Qf3), (61, spOf Qdh Qc7 Qaa)], eqOk := Qbw, pure := fun f => !(Qej [61] f), ownOff := ownOff }
def mf_cncmill_arc (Qcz Qe0 Qf3 Qaa : Fn) : Fn := Qat Try.prog (C_cncmill_arc_0 Qcz Qe0 Qf3 Qaa) 64 60 sig_cncmill_arc osig_cncmill_arc
abbrev Qnn (Qaa Qcz : Fn) (o23 o18 : List AC) (x0 x1 x2 : Int) (o26 o19 o22 : List AC) (h1_0 h1_1 h1_2 h1_3 : AC) : Option (List AC) :=
 (Qaa [I 4, h1_0, h1_1]).bind fun o30 =>
 bif decide (0 <= gA o30 0) && decide (gA o30 0 < (↑[[I 0], [I 0], [I 7], [I (-12)]].length : Int)) then
 (Qcz [h1_2, h1_3, I (IntKind.i64.wrap (gA o23 2 + Qav (nth .dead (nth [] [[I 0], [I 0], [I 7], [I (-12)]] (gA o30 0).toNat) 0))), I (Qav (nth .dead (nth [] [[I 17], [I 18], [I 19]] (gA o18 0).toNat) 0))]).bind fun o31 =>
 some [I 3, I 0, I x0, I x1, I x2, jA o31 0, jA o31 1, jA o31 2, I (Qav (nth .dead (nth [] [[I 17], [I 18], [I 19]] (gA o18 0).toNat) 0)), jA o26 0, jA o26 1, jA o26 2, I (IntKind.i64.wrap (1 - IntKind.i64.wrap (gA o19 0 * 2))), B (gA o22 0 == 0), I 0, B false, I 0, I 0, I 0, I 0, I 0, B false, .view Qax (wA o30 1), jA o30 2]
 else
 none
attribute [go_sem] Qnn
theorem mf_cncmill_arc_eq (Qcz Qe0 Qf3 Qaa : Fn) (x0 x1 x2 x3 : Int) (x4 : Rw) (x5 : Int) : mf_cncmill_arc Qcz Qe0 Qf3 Qaa [I x0, I x1, I x2, I x3, .view Qax x4, I x5] =
 (Qaa [I 3, .view Qax x4, I x5]).bind fun o18 =>
 bif decide (0 <= gA o18 0) && decide (gA o18 0 < (↑[[I 17], [I 18], [I 19]].length : Int)) then
 (Qaa [I 2, .view Qax (wA o18 1), jA o18 2]).bind fun o19 =>
 (Qaa [I x3, .view Qax (wA o19 1), jA o19 2]).bind fun o20 =>
 (Qaa [I 4, .view Qax (wA o20 1), jA o20 2]).bind fun o21 =>
 (Qaa [I 4, .view Qax (wA o21 1), jA o21 2]).bind fun o22 =>
 (Qf3 [I x0, I x1, I x2, I (Qav (nth .dead (nth [] [[I 17], [I 18], [I 19]] (gA o18 0).toNat) 0))]).bind fun o23 =>
 (Qe0 [I (IntKind.i64.wrap (8 + gA o20 0)), jA o21 0]).bind fun o24 =>
 (Qe0 [I (IntKind.i64.wrap (8 + gA o20 0)), I (IntKind.i64.wrap (gA o21 0 + gA o22 0))]).bind fun o25 =>
 (Qcz [I (IntKind.i64.wrap (gA o23 0 - gA o24 0)), I (IntKind.i64.wrap (gA o23 1 - gA o24 1)), jA o23 2, I (Qav (nth .dead (nth [] [[I 17], [I 18], [I 19]] (gA o18 0).toNat) 0))]).bind fun o26 =>
 bif decide (gA o22 0 > 0) then
 (Qaa [I 3, .view Qax (wA o22 1), jA o22 2]).bind fun o27 =>
 bif gA o27 0 == 0 then
 bif decide (IntKind.i64.wrap (8 + gA o20 0) = 0) then
 none
 else
 (Qaa [I 5, .view Qax (wA o27 1), jA o27 2]).bind fun o28 =>
 bif decide (IntKind.i64.wrap (8 + gA o20 0) = 0) then
 none
 else
 (Qaa [I 5, .view Qax (wA o28 1), jA o28 2]).bind fun o29 =>
 Qnn Qaa Qcz o23 o18 x0 x1 x2 o26 o19 o22 (.view Qax (wA o29 1)) (jA o29 2) (I (IntKind.i64.wrap (IntKind.i64.wrap (gA o23 0 - gA o24 0) + IntKind.i64.wrap (gA o25 0 + IntKind.i64.wrap (IntKind.i64.wrap ((gA o25 0).tdiv (IntKind.i64.wrap (8 + gA o20 0))) * gA o28 0))))) (I (IntKind.i64.wrap (IntKind.i64.wrap (gA o23 1 - gA o24 1) + IntKind.i64.wrap (gA o25 1 + IntKind.i64.wrap (IntKind.i64.wrap ((gA o25 1).tdiv (IntKind.i64.wrap (8 + gA o20 0))) * gA o29 0)))))
 else
 Qnn Qaa Qcz o23 o18 x0 x1 x2 o26 o19 o22 (.view Qax (wA o27 1)) (jA o27 2) (I (IntKind.i64.wrap (IntKind.i64.wrap (gA o23 0 - gA o24 0) + gA o25 0))) (I (IntKind.i64.wrap (IntKind.i64.wrap (gA o23 1 - gA o24 1) + gA o25 1)))
 else
 Qnn Qaa Qcz o23 o18 x0 x1 x2 o26 o19 o22 (.view Qax (wA o22 1)) (jA o22 2) (I (IntKind.i64.wrap (IntKind.i64.wrap (gA o23 0 - gA o24 0) + gA o25 0))) (I (IntKind.i64.wrap (IntKind.i64.wrap (gA o23 1 - gA o24 1) + gA o25 1)))
 else
 none := by kernel_rfl
def Qnc := mf_cncmill_arc Qf7 Qf0 Qfz Qas 
theorem sp_cncmill_arc : Qan Try.prog (C_cncmill_arc_0 Qf7 Qf0 Qfz Qas) := Qad rfl ⟨r_cncref23_Space, r_cncmill_turned, r_cncref23_Plane, Qgf, trivial⟩
theorem r_cncmill_arc : Qbv Try.prog (60, spOf sig_cncmill_arc osig_cncmill_arc Qnc) := Qa7 (C := (C_cncmill_arc_0 Qf7 Qf0 Qfz Qas)) (L := 64) (by kernel_rfl) (FnOK.bare rfl rfl rfl) sp_cncmill_arc eqOk Qbo (by kernel_rfl) (by kernel_rfl)
def sig_cncmill_From : Sk := { tmps := [tf [CS.sl Qax]], boxes := [], rows := [] }
def osig_cncmill_From : Sk := { tmps := [tf [CS.ptr 5 0]], boxes := [(5, 138, [CS.sl Qax, ci])], rows := [] }
def C_cncmill_From_0 : Cfg := { spec := Qbq [], eqOk := Qbw, ownOff := ownOff }
def mf_cncmill_From : Fn := Qat Try.prog C_cncmill_From_0 64 59 sig_cncmill_From osig_cncmill_From
theorem mf_cncmill_From_eq (x0 : Rw) : mf_cncmill_From [.view Qax x0] =
 some [.view Qax x0, I 0] := by kernel_rfl
def Qe9 := mf_cncmill_From 
theorem sp_cncmill_From : Qan Try.prog (C_cncmill_From_0 ) := Qad rfl trivial
theorem r_cncmill_From : Qbv Try.prog (59, spOf sig_cncmill_From osig_cncmill_From Qe9) := Qa7 (C := C_cncmill_From_0) (L := 64) (by kernel_rfl) (FnOK.bare rfl rfl rfl) sp_cncmill_From eqOk Qbo (by kernel_rfl) (by kernel_rfl)
def Qlr : Sk := { tmps := [TS.v true [ci, ci, ci], TS.v true [ci, ci, ci]], boxes := [], rows := [] }
def Qkp : Sk := { tmps := [tf [ci]], boxes := [], rows := [] }
def Qlp : Cfg := { spec := Qbq [], eqOk := Qbw, ownOff := ownOff }
def mf_contour_product : Fn := Qat Try.prog Qlp 64 56 Qlr Qkp
theorem mf_contour_product_eq (x0 x1 x2 x3 x4 x5 : Int) : mf_contour_product [I x0, I x1, I x2, I x3, I x4, I x5] =
 some [I (IntKind.i64.wrap (IntKind.i64.wrap (IntKind.i64.wrap (x0 * x3) + IntKind.i64.wrap (x1 * x4)) + IntKind.i64.wrap (x2 * x5)))] := by kernel_rfl
def Qfi := mf_contour_product 
theorem sp_contour_product : Qan Try.prog (Qlp ) := Qad rfl trivial
theorem r_contour_product : Qbv Try.prog (56, spOf Qlr Qkp Qfi) := Qa7 (C := Qlp) (L := 64) (by kernel_rfl) (FnOK.bare rfl rfl rfl) sp_contour_product eqOk Qbo (by kernel_rfl) (by kernel_rfl)
def Qii : Sk := { tmps := [TS.v true [ci, ci, ci], TS.v true [ci, ci, ci]], boxes := [], rows := [] }
def Qhk : Sk := { tmps := [TS.v true [ci, ci, ci]], boxes := [], rows := [] }
def Qij : Cfg := { spec := Qbq [], eqOk := Qbw, ownOff := ownOff, unroll := [2] }
def mf_contour_difference : Fn := Qat Try.prog Qij 64 55 Qii Qhk
theorem mf_contour_difference_eq (x0 x1 x2 x3 x4 x5 : Int) : mf_contour_difference [I x0, I x1, I x2, I x3, I x4, I x5] =
 some [I (IntKind.i64.wrap (x0 - x3)), I (IntKind.i64.wrap (x1 - x4)), I (IntKind.i64.wrap (x2 - x5))] := by kernel_rfl
def Qeb := mf_contour_difference 
theorem sp_contour_difference : Qan Try.prog (Qij ) := Qad rfl trivial
theorem r_contour_difference : Qbv Try.prog (55, spOf Qii Qhk Qeb) := Qa7 (C := Qij) (L := 64) (by kernel_rfl) (FnOK.bare rfl rfl rfl) sp_contour_difference eqOk Qbo (by kernel_rfl) (by kernel_rfl)
def Qm2 : Sk := { tmps := [TS.v true [ci, ci, ci], TS.v true [ci, ci, ci], TS.v true [ci, ci, ci], tf [ci]], boxes := [], rows := [] }
def Ql9 : Sk := { tmps := [tf [CS.bool]], boxes := [], rows := [] }
def Qop (Qbr Qc2 Qc4 : Fn) : Cfg := { spec := Qbq [(57, spOf Qmm Qjw Qbr), (56, spOf Qlr Qkp Qc2), (55, spOf Qii Qhk Qc4)], eqOk := Qbw, ownOff := ownOff }
def mf_contour_OnLine (Qbr Qc2 Qc4 : Fn) : Fn := Qat Try.prog (Qop Qbr Qc2 Qc4) 64 20 Qm2 Ql9
theorem mf_contour_OnLine_eq (Qbr Qc2 Qc4 : Fn) (x0 x1 x2 x3 x4 x5 x6 x7 x8 x9 : Int) : mf_contour_OnLine Qbr Qc2 Qc4 [I x0, I x1, I x2, I x3, I x4, I x5, I x6, I x7, I x8, I x9] =
 (Qc4 [I x3, I x4, I x5, I x0, I x1, I x2]).bind fun o9 =>
 (Qc4 [I x6, I x7, I x8, I x0, I x1, I x2]).bind fun o10 =>
 (Qc4 [I x6, I x7, I x8, I x3, I x4, I x5]).bind fun o11 =>
 (Qc2 [jA o9 0, jA o9 1, jA o9 2, jA o10 0, jA o10 1, jA o10 2]).bind fun o12 =>
 (Qc2 [jA o9 0, jA o9 1, jA o9 2, jA o9 0, jA o9 1, jA o9 2]).bind fun o13 =>
 bif decide (gA o12 0 <= 0) then
 (Qc2 [jA o10 0, jA o10 1, jA o10 2, jA o10 0, jA o10 1, jA o10 2]).bind fun o14 =>
 some [B (decide (gA o14 0 <= IntKind.i64.wrap (x9 * x9)))]
 else
 bif decide (gA o12 0 >= gA o13 0) then
 (Qc2 [jA o11 0, jA o11 1, jA o11 2, jA o11 0, jA o11 1, jA o11 2]).bind fun o15 =>
 some [B (decide (gA o15 0 <= IntKind.i64.wrap (x9 * x9)))]
 else
 (Qc2 [jA o10 0, jA o10 1, jA o10 2, jA o10 0, jA o10 1, jA o10 2]).bind fun o16 =>
 (Qbr [I (IntKind.i64.wrap (gA o16 0 - IntKind.i64.wrap (x9 * x9))), jA o13 0, jA o12 0, jA o12 0]).bind fun o17 =>
 some [B (decide (gA o17 0 <= 0))] := by kernel_rfl
def Qhx := mf_contour_OnLine Qen Qfi Qeb 
theorem sp_contour_OnLine : Qan Try.prog (Qop Qen Qfi Qeb) := Qad rfl ⟨r_wide_Cmp, r_contour_product, r_contour_difference, trivial⟩
theorem r_contour_OnLine : Qbv Try.prog (20, spOf Qm2 Ql9 Qhx) := Qa7 (C := (Qop Qen Qfi Qeb)) (L := 64) (by kernel_rfl) (FnOK.bare rfl rfl rfl) sp_contour_OnLine eqOk Qbo (by kernel_rfl) (by kernel_rfl)
def Qng : Sk := { tmps := [TS.v true [ci, ci, ci, ci, ci, ci, ci, ci, ci, ci, ci, ci, ci, CS.bool, ci, CS.bool, ci, ci, ci, ci, ci, CS.bool], TS.v true [ci, ci, ci], tf [ci]], boxes := [], rows := [] }
def Ql3 : Sk := { tmps := [tf [CS.bool]], boxes := [], rows := [] }
def Qn9 (Qf2 Qbj Qai Qgx : Fn) : Cfg := { spec := Qbq [(20, spOf Qm2 Ql9 Qf2), (68, spOf Qiu Qhm Qbj), (66, spOf Qfj Qew Qai), (26, spOf sig_contour_OnArc Qof Qgx)], eqOk := Qbw, ownOff := ownOff }
def mf_contour_OnItem (Qf2 Qbj Qai Qgx : Fn) : Fn := Qat Try.prog (Qn9 Qf2 Qbj Qai Qgx) 64 29 Qng Ql3
theorem mf_contour_OnItem_eq (Qf2 Qbj Qai Qgx : Fn) (x0 x1 x2 x3 x4 x5 x6 x7 x8 x9 x10 x11 x12 : Int) (x13 : Bool) (x14 : Int) (x15 : Bool) (x16 x17 x18 x19 x20 : Int) (x21 : Bool) (x22 x23 x24 x25 : Int) : mf_contour_OnItem Qf2 Qbj Qai Qgx [I x0, I x1, I x2, I x3, I x4, I x5, I x6, I x7, I x8, I x9, I x10, I x11, I x12, B x13, I x14, B x15, I x16, I x17, I x18, I x19, I x20, B x21, I x22, I x23, I x24, I x25] =
 bif x0 == 3 then
 (Qgx [I x0, I x1, I x2, I x3, I x4, I x5, I x6, I x7, I x8, I x9, I x10, I x11, I x12, B x13, I x14, B x15, I x16, I x17, I x18, I x19, I x20, B x21, I x22, I x23, I x24, I x25]).bind fun o5 =>
 some [B (bA o5 0)]
 else
 (Qai [I x0, I x1, I x2, I x3, I x4, I x5, I x6, I x7, I x8, I x9, I x10, I x11, I x12, B x13, I x14, B x15, I x16, I x17, I x18, I x19, I x20, B x21]).bind fun o6 =>
 bif bA o6 0 then
 (Qbj [I x2, I x3, I x4]).bind fun o7 =>
 (Qbj [I x5, I x6, I x7]).bind fun o8 =>
 (Qf2 [jA o7 0, jA o7 1, jA o7 2, jA o8 0, jA o8 1, jA o8 2, I x22, I x23, I x24, I x25]).bind fun o9 =>
 some [B (bA o9 0)]
 else
 some [B false] := by kernel_rfl
def Qfw := mf_contour_OnItem Qhx Qdv Qbx Qjn 
theorem sp_contour_OnItem : Qan Try.prog (Qn9 Qhx Qdv Qbx Qjn) := Qad rfl ⟨r_contour_OnLine, r_contour_scaled, Qm1, r_contour_OnArc, trivial⟩
theorem r_contour_OnItem : Qbv Try.prog (29, spOf Qng Ql3 Qfw) := Qa7 (C := (Qn9 Qhx Qdv Qbx Qjn)) (L := 64) (by kernel_rfl) (FnOK.bare rfl rfl rfl) sp_contour_OnItem eqOk Qbo (by kernel_rfl) (by kernel_rfl)
def Qnp : Sk := { tmps := [tf [CS.ptr 20000 0], TS.v true [ci, ci, ci], tf [ci]], boxes := [(20000, 138, [CS.sl Qax, ci])], rows := [] }
def Qlt : Sk := { tmps := [TS.v true [ci, ci, ci, ci, ci, ci, ci, ci, ci, ci, ci, ci, ci, CS.bool, ci, CS.bool, ci, ci, ci, ci, ci, CS.bool]], boxes := [(20000, 138, [CS.sl Qax, ci])], rows := [] }
def Qn8 (Qaa Qj3 : Fn) : Cfg := { spec := Qbq [(61, spOf Qdh Qc7 Qaa), (60, spOf sig_cncmill_arc osig_cncmill_arc Qj3)], eqOk := Qbw, pure := fun f => !(Qej [61, 60] f), ownOff := ownOff }
def mf_cncmill_motion (Qaa Qj3 : Fn) : Fn := Qat Try.prog (Qn8 Qaa Qj3) 64 79 Qnp Qlt
abbrev Qms (Qaa : Fn) (o20 : List AC) (x3 : Int) (h1_0 h1_1 h1_2 h1_3 h1_4 h1_5 h1_6 h1_7 h1_8 h1_9 h1_10 h1_11 h1_12 h1_13 h1_16 h1_17 h1_20 h1_21 : AC) : Option (List AC) :=
 (Qaa [I 60, .view Qax (wA o20 1), jA o20 2]).bind fun o21 =>
 bif x3 == 6 then
 (Qaa [I 2, .view Qax (wA o21 1), jA o21 2]).bind fun o22 =>
 some [h1_0, h1_1, h1_2, h1_3, h1_4, h1_5, h1_6, h1_7, h1_8, h1_9, h1_10, h1_11, h1_12, h1_13, I (IntKind.i64.wrap (1 + gA o21 0)), B true, h1_16, h1_17, I 0, I (IntKind.i64.wrap (3 + gA o22 0)), h1_20, h1_21, .view Qax (wA o22 1), jA o22 2]
 else
 some [h1_0, h1_1, h1_2, h1_3, h1_4, h1_5, h1_6, h1_7, h1_8, h1_9, h1_10, h1_11, h1_12, h1_13, I (IntKind.i64.wrap (1 + gA o21 0)), B true, h1_16, h1_17, I 0, I 0, h1_20, h1_21, .view Qax (wA o21 1), jA o21 2]
attribute [go_sem] Qms
abbrev Qn5 (x3 : Int) (Qaa : Fn) (h1_0 h1_1 h1_2 h1_3 h1_4 h1_5 h1_6 h1_7 h1_8 h1_9 h1_10 h1_11 h1_12 h1_13 h1_14 h1_15 h1_16 h1_17 h1_18 h1_19 h1_20 h1_21 h1_22 h1_23 : AC) : Option (List AC) :=
 bif x3 == 1 then
 some [h1_0, h1_1, h1_2, h1_3, h1_4, h1_5, h1_6, h1_7, h1_8, h1_9, h1_10, h1_11, h1_12, h1_13, h1_14, h1_15, h1_16, h1_17, h1_18, h1_19, h1_20, h1_21, h1_22, h1_23]
 else
 (Qaa [I 5, h1_22, h1_23]).bind fun o19 =>
 bif decide (0 <= gA o19 0) && decide (gA o19 0 < (↑[[I 300000], [I 1], [I 60000], [I 2000000], [I 60000000]].length : Int)) then
 (Qaa [I 5, .view Qax (wA o19 1), jA o19 2]).bind fun o20 =>
 bif decide (0 <= gA o20 0) && decide (gA o20 0 < (↑[[I 0], [I 1], [I 2], [I 4], [I 9]].length : Int)) then
 bif x3 == 5 then
 Qms Qaa o20 x3 h1_0 h1_1 h1_2 h1_3 h1_4 h1_5 h1_6 h1_7 h1_8 h1_9 h1_10 h1_11 h1_12 h1_13 h1_16 h1_17 h1_20 h1_21
 else
 bif x3 == 6 then
 Qms Qaa o20 x3 h1_0 h1_1 h1_2 h1_3 h1_4 h1_5 h1_6 h1_7 h1_8 h1_9 h1_10 h1_11 h1_12 h1_13 h1_16 h1_17 h1_20 h1_21
 else
 bif x3 == 4 then
 some [h1_0, h1_1, h1_2, h1_3, h1_4, h1_5, h1_6, h1_7, h1_8, h1_9, h1_10, h1_11, h1_12, h1_13, I (Qav (nth .dead (nth [] [[I 300000], [I 1], [I 60000], [I 2000000], [I 60000000]] (gA o19 0).toNat) 0)), h1_15, h1_16, h1_17, I 0, h1_19, h1_20, h1_21, .view Qax (wA o20 1), jA o20 2]
 else
 some [h1_0, h1_1, h1_2, h1_3, h1_4, h1_5, h1_6, h1_7, h1_8, h1_9, h1_10, h1_11, h1_12, h1_13, I (Qav (nth .dead (nth [] [[I 300000], [I 1], [I 60000], [I 2000000], [I 60000000]] (gA o19 0).toNat) 0)), h1_15, h1_16, h1_17, I (Qav (nth .dead (nth [] [[I 0], [I 1], [I 2], [I 4], [I 9]] (gA o20 0).toNat) 0)), h1_19, h1_20, h1_21, .view Qax (wA o20 1), jA o20 2]
 else
 none
 else
 none
attribute [go_sem] Qn5
theorem mf_cncmill_motion_eq (Qaa Qj3 : Fn) (x0 x1 x2 x3 : Int) (x4 : Rw) (x5 : Int) : mf_cncmill_motion Qaa Qj3 [I x0, I x1, I x2, I x3, .view Qax x4, I x5] =
 bif x3 == 3 then
 (Qj3 [I x0, I x1, I x2, I 8, .view Qax x4, I x5]).bind fun o18 =>
 Qn5 x3 Qaa (jA o18 0) (jA o18 1) (jA o18 2) (jA o18 3) (jA o18 4) (jA o18 5) (jA o18 6) (jA o18 7) (jA o18 8) (jA o18 9) (jA o18 10) (jA o18 11) (jA o18 12) (B (bA o18 13)) (jA o18 14) (B (bA o18 15)) (jA o18 16) (jA o18 17) (jA o18 18) (jA o18 19) (jA o18 20) (B (bA o18 21)) (.view Qax (wA o18 22)) (jA o18 23)
 else
 (Qaa [I 25, .view Qax x4, I x5]).bind fun o25 =>
 (Qaa [I 25, .view Qax (wA o25 1), jA o25 2]).bind fun o26 =>
 (Qaa [I 3, .view Qax (wA o26 1), jA o26 2]).bind fun o27 =>
 (Qaa [I 9, .view Qax (wA o27 1), jA o27 2]).bind fun o28 =>
 (Qaa [I 2, .view Qax (wA o28 1), jA o28 2]).bind fun o29 =>
 Qn5 x3 Qaa (I x3) (I 0) (I x0) (I x1) (I x2) (I (IntKind.i64.wrap (IntKind.i64.wrap (x0 + gA o25 0) - 12))) (I (IntKind.i64.wrap (IntKind.i64.wrap (x1 + gA o26 0) - 12))) (I (IntKind.i64.wrap (IntKind.i64.wrap (x2 + IntKind.i64.wrap (gA o27 0 * gA o28 0)) - IntKind.i64.wrap (8 * gA o29 0)))) (I 0) (I 0) (I 0) (I 0) (I 0) (B false) (I 0) (B false) (I 0) (I 0) (I 0) (I 0) (I 0) (B false) (.view Qax (wA o29 1)) (jA o29 2) := by kernel_rfl
def Qex := mf_cncmill_motion Qas Qnc 
theorem sp_cncmill_motion : Qan Try.prog (Qn8 Qas Qnc) := Qad rfl ⟨Qgf, r_cncmill_arc, trivial⟩
theorem r_cncmill_motion : Qbv Try.prog (79, spOf Qnp Qlt Qex) := Qa7 (C := (Qn8 Qas Qnc)) (L := 64) (by kernel_rfl) (FnOK.bare rfl rfl rfl) sp_cncmill_motion eqOk Qbo (by kernel_rfl) (by kernel_rfl)
def Qho : Sk := { tmps := [tf [CS.ptr 20000 0]], boxes := [(20000, 138, [CS.sl Qax, ci])], rows := [] }
def Qg4 : Sk := { tmps := [tf [CS.bool]], boxes := [(20000, 138, [CS.sl Qax, ci])], rows := [] }
def Qha : Cfg := { spec := Qbq [], eqOk := Qbw, ownOff := ownOff }
def mf_cncmill_Source_Left : Fn := Qat Try.prog Qha 64 78 Qho Qg4
theorem mf_cncmill_Source_Left_eq (x0 : Rw) (x1 : Int) : mf_cncmill_Source_Left [.view Qax x0, I x1] =
 some [B (decide (x1 < (x0.length : Int))), .view Qax x0, I x1] := by kernel_rfl
def Qcn := mf_cncmill_Source_Left 
theorem sp_cncmill_Source_Left : Qan Try.prog (Qha ) := Qad rfl trivial
theorem r_cncmill_Source_Left : Qbv Try.prog (78, spOf Qho Qg4 Qcn) := Qa7 (C := Qha) (L := 64) (by kernel_rfl) (FnOK.bare rfl rfl rfl) sp_cncmill_Source_Left eqOk Qbo (by kernel_rfl) (by kernel_rfl)
def Ql1 : Sk := { tmps := [tf [CS.sl kItm], TS.v true [ci, ci, ci], tf [ci]], boxes := [], rows := [] }
def Qki : Sk := { tmps := [tf [CS.bool]], boxes := [], rows := [] }
def Qlz (Qcd : Fn) : Cfg := { spec := Qbq [(29, spOf Qng Ql3 Qcd)], eqOk := Qbw, ownOff := ownOff }
def sk_contour_OnItems_2 : Sk := { tmps := [td, td, tf [ci], td, tf [CS.ptr 4 0], td, td, td, td, tf [CS.sl kItm], tf [ci], tf [ci]] ++ dd 8, boxes := [(4, 23, [ci, ci, ci])], rows := [] }
def ex_contour_OnItems_2 : List (Ex × Sk) := [(Ex.ret, { tmps := [td, td, td, td, td, td, tf [CS.bool]] ++ dd 13, boxes := [], rows := [] }), (Ex.exit 0, { tmps := [td] ++ dd 19, boxes := [], rows := [] })]
def Qe4 (Qcd : Fn) : Lp := stepL Try.prog (Qlz Qcd) 64 2 (Qhz Try.prog 30 2) sk_contour_OnItems_2 ex_contour_OnItems_2
def C_contour_OnItems_1 (Qcd : Fn) (N2 : Lp) : Cfg := (Qlz Qcd).loop 2 sk_contour_OnItems_2 ex_contour_OnItems_2 N2
def Qnb (Qcd : Fn) (N2 : Lp) : Fn := Qat Try.prog (C_contour_OnItems_1 Qcd N2) 64 30 Ql1 Qki
theorem st_contour_OnItems_2_eq (Qcd : Fn) (v0 : Int) (v1 : Rw) (v2 v3 v4 v5 v6 : Int) : Qe4 Qcd [I v0, .view kItm v1, I v2, I v3, I v4, I v5, I v6] =
 bif decide (v3 < v2) then
 bif decide (0 <= v3) && decide (v3 < (v1.length : Int)) then
 (Qcd [jA (nth [] v1 v3.toNat) 0, jA (nth [] v1 v3.toNat) 1, jA (nth [] v1 v3.toNat) 2, jA (nth [] v1 v3.toNat) 3, jA (nth [] v1 v3.toNat) 4, jA (nth [] v1 v3.toNat) 5, jA (nth [] v1 v3.toNat) 6, jA (nth [] v1 v3.toNat) 7, jA (nth [] v1 v3.toNat) 8, jA (nth [] v1 v3.toNat) 9, jA (nth [] v1 v3.toNat) 10, jA (nth [] v1 v3.toNat) 11, jA (nth [] v1 v3.toNat) 12, B (bA (nth [] v1 v3.toNat) 13), jA (nth [] v1 v3.toNat) 14, B (bA (nth [] v1 v3.toNat) 15), jA (nth [] v1 v3.toNat) 16, jA (nth [] v1 v3.toNat) 17, jA (nth [] v1 v3.toNat) 18, jA (nth [] v1 v3.toNat) 19, jA (nth [] v1 v3.toNat) 20, B (bA (nth [] v1 v3.toNat) 21), I v4, I v5, I v6, I v0]).bind fun o2 =>
 bif bA o2 0 then
 some (1, [B true])
 else
 some (0, [I v0, .view kItm v1, I v2, I (IntKind.i64.wrap (v3 + 1)), I v4, I v5, I v6])
 else
 none
 else
 some (2, []) := by kernel_rfl
theorem mf_contour_OnItems_eq (Qcd : Fn) (N2 : Lp) (x0 : Rw) (x1 x2 x3 x4 : Int) : Qnb Qcd N2 [.view kItm x0, I x1, I x2, I x3, I x4] =
 (N2 [I x4, .view kItm x0, I (x0.length : Int), I 0, I x1, I x2, I x3]).bind fun o3 =>
 bif o3.1.beq 1 then
 some [B (bA o3.2 0)]
 else
 bif o3.1.beq 2 then
 some [B false]
 else
 none := by kernel_rfl
def l_contour_OnItems_2 := Qb1 (Qe4 Qfw )
def Qfg := Qnb Qfw l_contour_OnItems_2
theorem sp_contour_OnItems : Qan Try.prog (Qlz Qfw) := Qad rfl ⟨r_contour_OnItem, trivial⟩
theorem r_contour_OnItems : Qbv Try.prog (30, spOf Ql1 Qki Qfg) := Qa7 (C := (C_contour_OnItems_1 Qfw l_contour_OnItems_2)) (L := 64) (by kernel_rfl) ((FnOK.bare rfl rfl rfl).loop sp_contour_OnItems eqOk Qbo (by kernel_rfl) (by kernel_rfl)) sp_contour_OnItems eqOk Qbo (by kernel_rfl) (by kernel_rfl)
def sig_curve_Space : Sk := { tmps := [tf [ci], tf [ci], tf [ci], tf [ci]], boxes := [], rows := [] }
def osig_curve_Space : Sk := { tmps := [TS.v true [ci, ci, ci]], boxes := [], rows := [] }
def C_curve_Space_0 (Qby : Fn) : Cfg := { spec := Qbq [(118, spOf Qkt Qja Qby)], eqOk := Qbw, ownOff := ownOff }
def mf_curve_Space (Qby : Fn) : Fn := Qat Try.prog (C_curve_Space_0 Qby) 64 94 sig_curve_Space osig_curve_Space
abbrev Qmx (o1 : List AC) (x2 : Int) (h2_0 h2_1 h2_2 : AC) : Option (List AC) :=
 bif decide (gA o1 2 = (↑0 : Int)) then
 some [I x2, h2_0, h2_1]
 else
 bif decide (gA o1 2 = (↑(0 + 1) : Int)) then
 some [h2_2, I x2, h2_1]
 else
 bif decide (gA o1 2 = (↑(0 + 1 + 1) : Int)) then
 some [h2_2, h2_0, I x2]
 else
 none
attribute [go_sem] Qmx
abbrev Qmt (o1 : List AC) (x2 x1 : Int) (h1_0 h1_1 h1_2 : AC) : Option (List AC) :=
 bif decide (gA o1 1 = (↑0 : Int)) then
 Qmx o1 x2 h1_0 h1_1 (I x1)
 else
 bif decide (gA o1 1 = (↑(0 + 1) : Int)) then
 Qmx o1 x2 (I x1) h1_1 h1_2
 else
 bif decide (gA o1 1 = (↑(0 + 1 + 1) : Int)) then
 Qmx o1 x2 h1_0 (I x1) h1_2
 else
 none
attribute [go_sem] Qmt
theorem mf_curve_Space_eq (Qby : Fn) (x0 x1 x2 x3 : Int) : mf_curve_Space Qby [I x0, I x1, I x2, I x3] =
 (Qby [I x3]).bind fun o1 =>
 bif bA o1 3 then
 bif decide (gA o1 0 = (↑0 : Int)) then
 Qmt o1 x2 x1 (I 0) (I 0) (I x0)
 else
 bif decide (gA o1 0 = (↑(0 + 1) : Int)) then
 Qmt o1 x2 x1 (I x0) (I 0) (I 0)
 else
 bif decide (gA o1 0 = (↑(0 + 1 + 1) : Int)) then
 Qmt o1 x2 x1 (I 0) (I x0) (I 0)
 else
 none
 else
 some [I 0, I 0, I 0] := by kernel_rfl
def Qjy := mf_curve_Space Qdl 
theorem sp_curve_Space : Qan Try.prog (C_curve_Space_0 Qdl) := Qad rfl ⟨r_curve_axes, trivial⟩
theorem r_curve_Space : Qbv Try.prog (94, spOf sig_curve_Space osig_curve_Space Qjy) := Qa7 (C := (C_curve_Space_0 Qdl)) (L := 64) (by kernel_rfl) (FnOK.bare rfl rfl rfl) sp_curve_Space eqOk Qbo (by kernel_rfl) (by kernel_rfl)
def Qi9 : Sk := { tmps := [tf [CS.int .u64], tf [CS.bool]], boxes := [], rows := [] }
def Qh3 : Sk := { tmps := [TS.tup [(false, [ci]), (false, [CS.bool])]], boxes := [], rows := [] }
def C_wide_signed_0 : Cfg := { spec := Qbq [], eqOk := Qbw, ownOff := ownOff }
def mf_wide_signed : Fn := Qat Try.prog C_wide_signed_0 64 146 Qi9 Qh3
theorem mf_wide_signed_eq (x0 : Int) (x1 : Bool) : mf_wide_signed [U x0, B x1] =
 bif x1 then
 bif decide (x0 <= 9223372036854775808) then
 some [I (IntKind.i64.wrap (IntKind.u64.wrap (0 - x0))), B true]
 else
 bif !x1 then
 bif decide (x0 < 9223372036854775808) then
 some [I (IntKind.i64.wrap x0), B true]
 else
 some [I 0, B false]
 else
 some [I 0, B false]
 else
 bif !x1 then
 bif decide (x0 < 9223372036854775808) then
 some [I (IntKind.i64.wrap x0), B true]
 else
 some [I 0, B false]
 else
 some [I 0, B false] := by kernel_rfl
def Qcq := mf_wide_signed 
theorem sp_wide_signed : Qan Try.prog (C_wide_signed_0 ) := Qad rfl trivial
theorem r_wide_signed : Qbv Try.prog (146, spOf Qi9 Qh3 Qcq) := Qa7 (C := C_wide_signed_0) (L := 64) (by kernel_rfl) (FnOK.bare rfl rfl rfl) sp_wide_signed eqOk Qbo (by kernel_rfl) (by kernel_rfl)
def sig_wide_grows : Sk := { tmps := [tf [ci], tf [ci], tf [CS.bool], tf [CS.bool]], boxes := [], rows := [] }
def Qod : Sk := { tmps := [tf [CS.bool]], boxes := [], rows := [] }
def C_wide_grows_0 : Cfg := { spec := Qbq [], eqOk := Qbw, ownOff := ownOff }
def mf_wide_grows : Fn := Qat Try.prog C_wide_grows_0 64 145 sig_wide_grows Qod
theorem mf_wide_grows_eq (x0 x1 : Int) (x2 x3 : Bool) : mf_wide_grows [I x0, I x1, B x2, B x3] =
 bif x0 == 0 then
 bif x2 then
 some [B x3]
 else
 some [B false]
 else
 bif x0 == 1 then
 bif x2 then
 some [B !x3]
 else
 some [B false]
 else
 bif decide (x1 > 0) then
 some [B true]
 else
 bif x1 == 0 then
 some [B !x3]
 else
 some [B false] := by kernel_rfl
def Qfc := mf_wide_grows 
theorem sp_wide_grows : Qan Try.prog (C_wide_grows_0 ) := Qad rfl trivial
theorem r_wide_grows : Qbv Try.prog (145, spOf sig_wide_grows Qod Qfc) := Qa7 (C := C_wide_grows_0) (L := 64) (by kernel_rfl) (FnOK.bare rfl rfl rfl) sp_wide_grows eqOk Qbo (by kernel_rfl) (by kernel_rfl)
def Qit : Sk := { tmps := [TS.v true [CS.int .u64, CS.int .u64]], boxes := [], rows := [] }
def Qhe : Sk := { tmps := [tf [CS.int .u64]], boxes := [], rows := [] }
def Qmv (Qbk Qak : Fn) : Cfg := { spec := Qbq [(105, spOf Qlg Qj9 Qbk), (106, spOf Qf4 Qfe Qak)], eqOk := Qbw, ownOff := ownOff }
def sk_wide_floorRoot_3 : Sk := { tmps := [td, tf [CS.ptr 1 0], td, tf [CS.int .u64], tf [CS.int .u64]] ++ dd 16, boxes := [(1, 134, [CS.int .u64, CS.int .u64])], rows := [] }
def ex_wide_floorRoot_3 : List (Ex × Sk) := [(Ex.exit 0, { tmps := [td, td, td, tf [CS.int .u64]] ++ dd 17, boxes := [], rows := [] })]
def Qdx (Qbk Qak : Fn) : Lp := stepL Try.prog (Qmv Qbk Qak) 64 3 (Qhz Try.prog 172 3) sk_wide_floorRoot_3 ex_wide_floorRoot_3
def C_wide_floorRoot_1 (Qbk Qak : Fn) (N3 : Lp) : Cfg := (Qmv Qbk Qak).loop 3 sk_wide_floorRoot_3 ex_wide_floorRoot_3 N3
def mf_wide_floorRoot (Qbk Qak : Fn) (N3 : Lp) : Fn := Qat Try.prog (C_wide_floorRoot_1 Qbk Qak N3) 64 172 Qit Qhe
theorem st_wide_floorRoot_3_eq (Qbk Qak : Fn) (v0 v1 v2 v3 : Int) : Qdx Qbk Qak [U v0, U v1, U v2, U v3] =
 bif decide (v1 > 0) then
 (Qak [U (IntKind.u64.wrap (↑(BitVec.ofInt IntKind.u64.bits v0 ||| BitVec.ofInt IntKind.u64.bits v1).toNat : Int)), U (IntKind.u64.wrap (↑(BitVec.ofInt IntKind.u64.bits v0 ||| BitVec.ofInt IntKind.u64.bits v1).toNat : Int))]).bind fun o3 =>
 (Qbk [U (gA o3 0), U (gA o3 1), U v2, U v3]).bind fun o4 =>
 bif decide (gA o4 0 <= 0) then
 some (0, [U (IntKind.u64.wrap (↑(BitVec.ofInt IntKind.u64.bits v0 ||| BitVec.ofInt IntKind.u64.bits v1).toNat : Int)), U (v1.fdiv (2 ^ min (Int.toNat 1) IntKind.u64.bits)), U v2, U v3])
 else
 some (0, [U v0, U (v1.fdiv (2 ^ min (Int.toNat 1) IntKind.u64.bits)), U v2, U v3])
 else
 some (1, [U v0]) := by kernel_rfl
theorem mf_wide_floorRoot_eq (Qbk Qak : Fn) (N3 : Lp) (x0 x1 : Int) : mf_wide_floorRoot Qbk Qak N3 [U x0, U x1] =
 (N3 [U 0, U 9223372036854775808, U x0, U x1]).bind fun o5 =>
 bif o5.1.beq 1 then
 some [U (gA o5.2 0)]
 else
 none := by kernel_rfl
def l_wide_floorRoot_3 := Qb1 (Qdx Qd3 Qbp )
def Qef := mf_wide_floorRoot Qd3 Qbp l_wide_floorRoot_3
theorem sp_wide_floorRoot : Qan Try.prog (Qmv Qd3 Qbp) := Qad rfl ⟨r_wide_compare, r_wide_product, trivial⟩
theorem r_wide_floorRoot : Qbv Try.prog (172, spOf Qit Qhe Qef) := Qa7 (C := (C_wide_floorRoot_1 Qd3 Qbp l_wide_floorRoot_3)) (L := 64) (by kernel_rfl) ((FnOK.bare rfl rfl rfl).loop sp_wide_floorRoot eqOk Qbo (by kernel_rfl) (by kernel_rfl)) sp_wide_floorRoot eqOk Qbo (by kernel_rfl) (by kernel_rfl)
def sig_bits_Div64 : Sk := { tmps := [tf [CS.int .u64], tf [CS.int .u64], tf [CS.int .u64]], boxes := [], rows := [] }
def Qnw : Sk := { tmps := [TS.tup [(false, [CS.int .u64]), (false, [CS.int .u64])]], boxes := [], rows := [] }
def C_bits_Div64_0 (Qal : Fn) : Cfg := { spec := Qbq [(164, spOf Qe5 Qes Qal)], eqOk := Qbw, ownOff := ownOff }
def sk_bits_Div64_17 : Sk := { tmps := [td, td, tf [CS.int .u64], td, td, td, td, td, tf [CS.int .u64], tf [CS.int .u64], tf [CS.int .u64], tf [CS.int .u64], td, tf [CS.int .u64], tf [CS.int .u64], tf [CS.int .u64], tf [CS.int .u64]] ++ dd 118, boxes := [], rows := [] }
def ex_bits_Div64_17 : List (Ex × Sk) := [(Ex.exit 0, { tmps := [td, td, tf [CS.int .u64], td, td, td, td, td, tf [CS.int .u64], tf [CS.int .u64], tf [CS.int .u64], tf [CS.int .u64], td, tf [CS.int .u64], tf [CS.int .u64], tf [CS.int .u64]] ++ dd 119, boxes := [], rows := [] })]
def Qey (Qal : Fn) : Lp := stepL Try.prog (C_bits_Div64_0 Qal) 64 17 (Qhz Try.prog 144 17) sk_bits_Div64_17 ex_bits_Div64_17
def C_bits_Div64_1 (Qal : Fn) (N17 : Lp) : Cfg := (C_bits_Div64_0 Qal).loop 17 sk_bits_Div64_17 ex_bits_Div64_17 N17
def sk_bits_Div64_24 : Sk := { tmps := [td, td, tf [CS.int .u64], td, td, td, td, td, tf [CS.int .u64], tf [CS.int .u64], tf [CS.int .u64], td, td, td, tf [CS.int .u64], tf [CS.int .u64], tf [CS.int .u64], tf [CS.int .u64], tf [CS.int .u64]] ++ dd 116, boxes := [], rows := [] }
def ex_bits_Div64_24 : List (Ex × Sk) := [(Ex.exit 2, { tmps := [td, td, tf [CS.int .u64], td, td, td, td, td, tf [CS.int .u64], td, td, td, td, td, tf [CS.int .u64], tf [CS.int .u64], td, tf [CS.int .u64], tf [CS.int .u64]] ++ dd 116, boxes := [], rows := [] })]
def Qhs (Qal : Fn) (N17 : Lp) : Lp := stepL Try.prog (C_bits_Div64_1 Qal N17) 64 24 (Qhz Try.prog 144 24) sk_bits_Div64_24 ex_bits_Div64_24
def C_bits_Div64_2 (Qal : Fn) (N17 N24 : Lp) : Cfg := (C_bits_Div64_1 Qal N17).loop 24 sk_bits_Div64_24 ex_bits_Div64_24 N24
def mf_bits_Div64 (Qal : Fn) (N17 N24 : Lp) : Fn := Qat Try.prog (C_bits_Div64_2 Qal N17 N24) 64 144 sig_bits_Div64 Qnw
theorem st_bits_Div64_17_eq (Qal : Fn) (v0 v1 v2 v3 v4 v5 v6 v7 v8 : Int) : Qey Qal [U v0, U v1, U v2, U v3, U v4, U v5, U v6, U v7, U v8] =
 bif decide (v7 >= 4294967296) then
 bif decide (IntKind.u64.wrap (v8 + v2) >= 4294967296) then
 some (1, [U v0, U v1, U v2, U v3, U v4, U v5, U v6, U (IntKind.u64.wrap (v7 - 1))])
 else
 some (0, [U v0, U v1, U v2, U v3, U v4, U v5, U v6, U (IntKind.u64.wrap (v7 - 1)), U (IntKind.u64.wrap (v8 + v2))])
 else
 bif decide (IntKind.u64.wrap (v7 * v3) > IntKind.u64.wrap (IntKind.u64.wrap (4294967296 * v8) + v5)) then
 bif decide (IntKind.u64.wrap (v8 + v2) >= 4294967296) then
 some (1, [U v0, U v1, U v2, U v3, U v4, U v5, U v6, U (IntKind.u64.wrap (v7 - 1))])
 else
 some (0, [U v0, U v1, U v2, U v3, U v4, U v5, U v6, U (IntKind.u64.wrap (v7 - 1)), U (IntKind.u64.wrap (v8 + v2))])
 else
 some (1, [U v0, U v1, U v2, U v3, U v4, U v5, U v6, U v7]) := by kernel_rfl
theorem st_bits_Div64_24_eq (Qal : Fn) (N17 : Lp) (v0 v1 v2 v3 v4 v5 v6 v7 v8 : Int) : Qhs Qal N17 [U v0, U v1, U v2, U v3, U v4, U v5, U v6, U v7, U v8] =
 bif decide (v8 >= 4294967296) then
 bif decide (IntKind.u64.wrap (v6 + v2) >= 4294967296) then
 some (1, [U v0, U v1, U v4, U v5, U v7, U (IntKind.u64.wrap (v8 - 1))])
 else
 some (0, [U v0, U v1, U v2, U v3, U v4, U v5, U (IntKind.u64.wrap (v6 + v2)), U v7, U (IntKind.u64.wrap (v8 - 1))])
 else
 bif decide (IntKind.u64.wrap (v8 * v3) > IntKind.u64.wrap (IntKind.u64.wrap (4294967296 * v6) + v4)) then
 bif decide (IntKind.u64.wrap (v6 + v2) >= 4294967296) then
 some (1, [U v0, U v1, U v4, U v5, U v7, U (IntKind.u64.wrap (v8 - 1))])
 else
 some (0, [U v0, U v1, U v2, U v3, U v4, U v5, U (IntKind.u64.wrap (v6 + v2)), U v7, U (IntKind.u64.wrap (v8 - 1))])
 else
 some (1, [U v0, U v1, U v4, U v5, U v7, U v8]) := by kernel_rfl
theorem mf_bits_Div64_eq (Qal : Fn) (N17 N24 : Lp) (x0 x1 x2 : Int) : mf_bits_Div64 Qal N17 N24 [U x0, U x1, U x2] =
 bif x2 == 0 then
 none
 else
 bif decide (x2 <= x0) then
 none
 else
 bif x0 == 0 then
 bif decide (x2 = 0) then
 none
 else
 bif decide (x2 = 0) then
 none
 else
 some [U (IntKind.u64.wrap (x1.tdiv x2)), U (x1.tmod x2)]
 else
 (Qal [U x2]).bind fun o6 =>
 bif decide (IntKind.u64.wrap (gA o6 0) < 0) then
 none
 else
 bif decide (IntKind.u64.wrap (gA o6 0) < 0) then
 none
 else
 bif decide (IntKind.u64.wrap (64 - IntKind.u64.wrap (gA o6 0)) < 0) then
 none
 else
 bif decide (IntKind.u64.wrap (gA o6 0) < 0) then
 none
 else
 bif decide ((IntKind.u64.wrap (x2 * 2 ^ min (IntKind.u64.wrap (gA o6 0)).toNat IntKind.u64.bits)).fdiv (2 ^ min (Int.toNat 32) IntKind.u64.bits) = 0) then
 none
 else
 (N17 [U (IntKind.u64.wrap (x2 * 2 ^ min (IntKind.u64.wrap (gA o6 0)).toNat IntKind.u64.bits)), U (IntKind.u64.wrap (gA o6 0)), U ((IntKind.u64.wrap (x2 * 2 ^ min (IntKind.u64.wrap (gA o6 0)).toNat IntKind.u64.bits)).fdiv (2 ^ min (Int.toNat 32) IntKind.u64.bits)), U (IntKind.u64.wrap (↑(BitVec.ofInt IntKind.u64.bits (IntKind.u64.wrap (x2 * 2 ^ min (IntKind.u64.wrap (gA o6 0)).toNat IntKind.u64.bits)) &&& BitVec.ofInt IntKind.u64.bits 4294967295).toNat : Int)), U (IntKind.u64.wrap (↑(BitVec.ofInt IntKind.u64.bits (IntKind.u64.wrap (x0 * 2 ^ min (IntKind.u64.wrap (gA o6 0)).toNat IntKind.u64.bits)) ||| BitVec.ofInt IntKind.u64.bits (x1.fdiv (2 ^ min (IntKind.u64.wrap (64 - IntKind.u64.wrap (gA o6 0))).toNat IntKind.u64.bits))).toNat : Int)), U ((IntKind.u64.wrap (x1 * 2 ^ min (IntKind.u64.wrap (gA o6 0)).toNat IntKind.u64.bits)).fdiv (2 ^ min (Int.toNat 32) IntKind.u64.bits)), U (IntKind.u64.wrap (↑(BitVec.ofInt IntKind.u64.bits (IntKind.u64.wrap (x1 * 2 ^ min (IntKind.u64.wrap (gA o6 0)).toNat IntKind.u64.bits)) &&& BitVec.ofInt IntKind.u64.bits 4294967295).toNat : Int)), U (IntKind.u64.wrap ((IntKind.u64.wrap (↑(BitVec.ofInt IntKind.u64.bits (IntKind.u64.wrap (x0 * 2 ^ min (IntKind.u64.wrap (gA o6 0)).toNat IntKind.u64.bits)) ||| BitVec.ofInt IntKind.u64.bits (x1.fdiv (2 ^ min (IntKind.u64.wrap (64 - IntKind.u64.wrap (gA o6 0))).toNat IntKind.u64.bits))).toNat : Int)).tdiv ((IntKind.u64.wrap (x2 * 2 ^ min (IntKind.u64.wrap (gA o6 0)).toNat IntKind.u64.bits)).fdiv (2 ^ min (Int.toNat 32) IntKind.u64.bits)))), U (IntKind.u64.wrap (IntKind.u64.wrap (↑(BitVec.ofInt IntKind.u64.bits (IntKind.u64.wrap (x0 * 2 ^ min (IntKind.u64.wrap (gA o6 0)).toNat IntKind.u64.bits)) ||| BitVec.ofInt IntKind.u64.bits (x1.fdiv (2 ^ min (IntKind.u64.wrap (64 - IntKind.u64.wrap (gA o6 0))).toNat IntKind.u64.bits))).toNat : Int) - IntKind.u64.wrap (IntKind.u64.wrap ((IntKind.u64.wrap (↑(BitVec.ofInt IntKind.u64.bits (IntKind.u64.wrap (x0 * 2 ^ min (IntKind.u64.wrap (gA o6 0)).toNat IntKind.u64.bits)) ||| BitVec.ofInt IntKind.u64.bits (x1.fdiv (2 ^ min (IntKind.u64.wrap (64 - IntKind.u64.wrap (gA o6 0))).toNat IntKind.u64.bits))).toNat : Int)).tdiv ((IntKind.u64.wrap (x2 * 2 ^ min (IntKind.u64.wrap (gA o6 0)).toNat IntKind.u64.bits)).fdiv (2 ^ min (Int.toNat 32) IntKind.u64.bits))) * (IntKind.u64.wrap (x2 * 2 ^ min (IntKind.u64.wrap (gA o6 0)).toNat IntKind.u64.bits)).fdiv (2 ^ min (Int.toNat 32) IntKind.u64.bits))))]).bind fun o7 =>
 bif o7.1.beq 1 then
 bif decide (gA o7.2 2 = 0) then
 none
 else
 (N24 [U (gA o7.2 0), U (gA o7.2 1), U (gA o7.2 2), U (gA o7.2 3), U (gA o7.2 6), U (gA o7.2 7), U (IntKind.u64.wrap (IntKind.u64.wrap (IntKind.u64.wrap (IntKind.u64.wrap (gA o7.2 4 * 4294967296) + gA o7.2 5) - IntKind.u64.wrap (gA o7.2 7 * gA o7.2 0)) - IntKind.u64.wrap (IntKind.u64.wrap ((IntKind.u64.wrap (IntKind.u64.wrap (IntKind.u64.wrap (gA o7.2 4 * 4294967296) + gA o7.2 5) - IntKind.u64.wrap (gA o7.2 7 * gA o7.2 0))).tdiv (gA o7.2 2)) * gA o7.2 2))), U (IntKind.u64.wrap (IntKind.u64.wrap (IntKind.u64.wrap (gA o7.2 4 * 4294967296) + gA o7.2 5) - IntKind.u64.wrap (gA o7.2 7 * gA o7.2 0))), U (IntKind.u64.wrap ((IntKind.u64.wrap (IntKind.u64.wrap (IntKind.u64.wrap (gA o7.2 4 * 4294967296) + gA o7.2 5) - IntKind.u64.wrap (gA o7.2 7 * gA o7.2 0))).tdiv (gA o7.2 2)))]).bind fun o8 =>
 bif o8.1.beq 1 then
 bif decide (gA o8.2 1 < 0) then
 none
 else
 some [U (IntKind.u64.wrap (IntKind.u64.wrap (gA o8.2 3 * 4294967296) + gA o8.2 5)), U ((IntKind.u64.wrap (IntKind.u64.wrap (IntKind.u64.wrap (gA o8.2 4 * 4294967296) + gA o8.2 2) - IntKind.u64.wrap (gA o8.2 5 * gA o8.2 0))).fdiv (2 ^ min (gA o8.2 1).toNat IntKind.u64.bits))]
 else
 none
 else
 none := by kernel_rfl
def Qmz := Qb1 (Qey Qbd )
def l_bits_Div64_24 := Qb1 (Qhs Qbd Qmz)
def Qeg := mf_bits_Div64 Qbd Qmz l_bits_Div64_24
theorem sp_bits_Div64 : Qan Try.prog (C_bits_Div64_0 Qbd) := Qad rfl ⟨r_bits_LeadingZeros64, trivial⟩
theorem r_bits_Div64 : Qbv Try.prog (144, spOf sig_bits_Div64 Qnw Qeg) := Qa7 (C := (C_bits_Div64_2 Qbd Qmz l_bits_Div64_24)) (L := 64) (by kernel_rfl) (((FnOK.bare rfl rfl rfl).loop sp_bits_Div64 eqOk Qbo (by kernel_rfl) (by kernel_rfl)).loop sp_bits_Div64 eqOk Qbo (by kernel_rfl) (by kernel_rfl)) sp_bits_Div64 eqOk Qbo (by kernel_rfl) (by kernel_rfl)
def sig_wide_quotient : Sk := { tmps := [TS.v true [CS.int .u64, CS.int .u64], tf [CS.int .u64]], boxes := [], rows := [] }
def Qm9 : Sk := { tmps := [TS.tup [(true, [CS.int .u64, CS.int .u64]), (false, [CS.bool])]], boxes := [], rows := [] }
def C_wide_quotient_0 (Qdk : Fn) : Cfg := { spec := Qbq [(144, spOf sig_bits_Div64 Qnw Qdk)], eqOk := Qbw, ownOff := ownOff }
def mf_wide_quotient (Qdk : Fn) : Fn := Qat Try.prog (C_wide_quotient_0 Qdk) 64 184 sig_wide_quotient Qm9
theorem mf_wide_quotient_eq (Qdk : Fn) (x0 x1 x2 : Int) : mf_wide_quotient Qdk [U x0, U x1, U x2] =
 (Qdk [U 0, U x0, U x2]).bind fun o2 =>
 (Qdk [U (gA o2 1), U x1, U x2]).bind fun o3 =>
 some [U (gA o2 0), U (gA o3 0), B (decide (gA o3 1 > 0))] := by kernel_rfl
def Qoc := mf_wide_quotient Qeg 
theorem sp_wide_quotient : Qan Try.prog (C_wide_quotient_0 Qeg) := Qad rfl ⟨r_bits_Div64, trivial⟩
theorem r_wide_quotient : Qbv Try.prog (184, spOf sig_wide_quotient Qm9 Qoc) := Qa7 (C := (C_wide_quotient_0 Qeg)) (L := 64) (by kernel_rfl) (FnOK.bare rfl rfl rfl) sp_wide_quotient eqOk Qbo (by kernel_rfl) (by kernel_rfl)
def Qk2 : Sk := { tmps := [tf [ci]], boxes := [], rows := [] }
def Qi2 : Sk := { tmps := [tf [CS.bool]], boxes := [], rows := [] }
def C_wide_known_0 : Cfg := { spec := Qbq [], eqOk := Qbw, ownOff := ownOff }
def mf_wide_known : Fn := Qat Try.prog C_wide_known_0 64 143 Qk2 Qi2
theorem mf_wide_known_eq (x0 : Int) : mf_wide_known [I x0] =
 bif x0 == 0 then
 some [B true]
 else
 bif x0 == 1 then
 some [B true]
 else
 some [B (x0 == 2)] := by kernel_rfl
def Qd0 := mf_wide_known 
theorem sp_wide_known : Qan Try.prog (C_wide_known_0 ) := Qad rfl trivial
theorem r_wide_known : Qbv Try.prog (143, spOf Qk2 Qi2 Qd0) := Qa7 (C := C_wide_known_0) (L := 64) (by kernel_rfl) (FnOK.bare rfl rfl rfl) sp_wide_known eqOk Qbo (by kernel_rfl) (by kernel_rfl)
def sig_wide_Over : Sk := { tmps := [tf [ci], tf [ci], tf [ci], tf [ci]], boxes := [], rows := [] }
def osig_wide_Over : Sk := { tmps := [TS.tup [(false, [ci]), (false, [CS.bool])]], boxes := [], rows := [] }
def C_wide_Over_0 (Qah Qa8 Qbu Qb4 Qgz Qak Qbz Qbg : Fn) : Cfg := { spec := Qbq [(146, spOf Qi9 Qh3 Qah), (145, spOf sig_wide_grows Qod Qa8), (104, spOf Qnl Qk0 Qbu), (172, spOf Qit Qhe Qb4), (184, spOf sig_wide_quotient Qm9 Qgz), (106, spOf Qf4 Qfe Qak), (143, spOf Qk2 Qi2 Qbz), (107, spOf Qon Qk8 Qbg)], eqOk := Qbw, ownOff := ownOff }
def mf_wide_Over (Qah Qa8 Qbu Qb4 Qgz Qak Qbz Qbg : Fn) : Fn := Qat Try.prog (C_wide_Over_0 Qah Qa8 Qbu Qb4 Qgz Qak Qbz Qbg) 64 175 sig_wide_Over osig_wide_Over
abbrev g_wide_Over_1 (Qa8 : Fn) (x3 : Int) (Qah : Fn) (o42 : List AC) (h1_0 : Bool) (h1_1 h1_2 h1_3 h1_4 : AC) : Option (List AC) :=
 bif h1_0 then
 (Qa8 [I x3, h1_1, B true, h1_2]).bind fun o44 =>
 bif bA o44 0 then
 (Qah [U (IntKind.u64.wrap (IntKind.u64.wrap ((gA o42 0).tdiv 2) + 1)), h1_2]).bind fun o45 =>
 some [jA o45 0, B (bA o45 1)]
 else
 (Qah [U (IntKind.u64.wrap ((gA o42 0).tdiv 2)), h1_2]).bind fun o46 =>
 some [jA o46 0, B (bA o46 1)]
 else
 (Qa8 [I x3, h1_3, h1_4, h1_2]).bind fun o47 =>
 bif bA o47 0 then
 (Qah [U (IntKind.u64.wrap (IntKind.u64.wrap ((gA o42 0).tdiv 2) + 1)), h1_2]).bind fun o48 =>
 some [jA o48 0, B (bA o48 1)]
 else
 (Qah [U (IntKind.u64.wrap ((gA o42 0).tdiv 2)), h1_2]).bind fun o49 =>
 some [jA o49 0, B (bA o49 1)]
attribute [go_sem] g_wide_Over_1
theorem mf_wide_Over_eq (Qah Qa8 Qbu Qb4 Qgz Qak Qbz Qbg : Fn) (x0 x1 x2 x3 : Int) : mf_wide_Over Qah Qa8 Qbu Qb4 Qgz Qak Qbz Qbg [I x0, I x1, I x2, I x3] =
 (Qbg [I x0]).bind fun o35 =>
 bif decide (gA o35 0 > 2147483648) then
 some [I 0, B false]
 else
 (Qbg [I x1]).bind fun o36 =>
 bif decide (gA o36 0 > 2147483648) then
 some [I 0, B false]
 else
 bif decide (x2 < 1) then
 some [I 0, B false]
 else
 bif decide (x2 > 4611686018427387904) then
 some [I 0, B false]
 else
 (Qbz [I x3]).bind fun o37 =>
 bif !bA o37 0 then
 some [I 0, B false]
 else
 (Qbg [I x0]).bind fun o38 =>
 (Qbg [I x1]).bind fun o39 =>
 (Qak [U (IntKind.u64.wrap (2 * IntKind.u64.wrap (gA o38 0 * gA o39 0))), U (IntKind.u64.wrap (2 * IntKind.u64.wrap (gA o38 0 * gA o39 0)))]).bind fun o40 =>
 (Qgz [U (gA o40 0), U (gA o40 1), U (IntKind.u64.wrap x2)]).bind fun o41 =>
 (Qb4 [U (gA o41 0), U (gA o41 1)]).bind fun o42 =>
 bif bA o41 2 then
 (Qbu [I x0, I x1]).bind fun o43 =>
 g_wide_Over_1 Qa8 x3 Qah o42 ((gA o42 0).tmod 2 == 1) (I 1) (B (decide (gA o43 0 < 0))) (I (-1)) (B true)
 else
 (Qak [U (gA o42 0), U (gA o42 0)]).bind fun o50 =>
 (Qbu [I x0, I x1]).bind fun o51 =>
 bif (gA o42 0).tmod 2 == 1 then
 bif !(gA o50 0 == gA o41 0 && (gA o50 1 == gA o41 1 && true)) then
 g_wide_Over_1 Qa8 x3 Qah o42 (!(gA o50 0 == gA o41 0 && (gA o50 1 == gA o41 1 && true))) (I 1) (B (decide (gA o51 0 < 0))) (I 1) (B ((gA o42 0).tmod 2 == 1))
 else
 g_wide_Over_1 Qa8 x3 Qah o42 (!(gA o50 0 == gA o41 0 && (gA o50 1 == gA o41 1 && true))) (I 0) (B (decide (gA o51 0 < 0))) (I 0) (B ((gA o42 0).tmod 2 == 1))
 else
 g_wide_Over_1 Qa8 x3 Qah o42 (!(gA o50 0 == gA o41 0 && (gA o50 1 == gA o41 1 && true))) (I (-1)) (B (decide (gA o51 0 < 0))) (I (-1)) (B ((gA o42 0).tmod 2 == 1)) := by kernel_rfl
def Qgg := mf_wide_Over Qcq Qfc Qel Qef Qoc Qbp Qd0 Qem 
theorem sp_wide_Over : Qan Try.prog (C_wide_Over_0 Qcq Qfc Qel Qef Qoc Qbp Qd0 Qem) := Qad rfl ⟨r_wide_signed, r_wide_grows, r_wide_sign, r_wide_floorRoot, r_wide_quotient, r_wide_product, r_wide_known, r_wide_size, trivial⟩
theorem r_wide_Over : Qbv Try.prog (175, spOf sig_wide_Over osig_wide_Over Qgg) := Qa7 (C := (C_wide_Over_0 Qcq Qfc Qel Qef Qoc Qbp Qd0 Qem)) (L := 64) (by kernel_rfl) (FnOK.bare rfl rfl rfl) sp_wide_Over eqOk Qbo (by kernel_rfl) (by kernel_rfl)
def sig_curve_Middle : Sk := { tmps := [TS.v true [ci, ci, ci, ci], TS.v true [ci, ci, ci, ci], tf [ci], tf [CS.bool]], boxes := [], rows := [] }
def osig_curve_Middle : Sk := { tmps := [TS.tup [(true, [ci, ci, ci, ci]), (false, [CS.bool])]], boxes := [], rows := [] }
def C_curve_Middle_0 (Qbh Qa0 Qbb : Fn) : Cfg := { spec := Qbq [(175, spOf sig_wide_Over osig_wide_Over Qbh), (122, spOf Qjh Qh5 Qa0), (120, spOf Qnx Qkx Qbb)], eqOk := Qbw, ownOff := ownOff }
def mf_curve_Middle (Qbh Qa0 Qbb : Fn) : Fn := Qat Try.prog (C_curve_Middle_0 Qbh Qa0 Qbb) 64 158 sig_curve_Middle osig_curve_Middle
abbrev g_curve_Middle_3 (Qbh : Fn) (h1_2 : AC) (x2 x6 : Int) (h1_3 h1_4 : AC) (x3 x7 : Int) : Option (List AC) :=
 (Qbh [h1_2, I ((IntKind.i64.wrap (IntKind.i64.wrap (x2 + x6) + 1)).fdiv (2 ^ min (Int.toNat 1) IntKind.i64.bits)), h1_3, I 2]).bind fun o36 =>
 (Qbh [h1_4, I ((IntKind.i64.wrap (IntKind.i64.wrap (x2 + x6) + 1)).fdiv (2 ^ min (Int.toNat 1) IntKind.i64.bits)), h1_3, I 2]).bind fun o37 =>
 some [jA o36 0, jA o37 0, I ((IntKind.i64.wrap (IntKind.i64.wrap (x2 + x6) + 1)).fdiv (2 ^ min (Int.toNat 1) IntKind.i64.bits)), I ((IntKind.i64.wrap (IntKind.i64.wrap (x3 + x7) + 1)).fdiv (2 ^ min (Int.toNat 1) IntKind.i64.bits)), B true]
attribute [go_sem] g_curve_Middle_3
abbrev Qh7 (Qbh : Fn) (x2 x6 x3 x7 : Int) (h1_0 h1_1 : Bool) (h1_2 h1_3 h1_4 : AC) : Option (List AC) :=
 bif h1_0 then
 bif h1_1 then
 some [I 0, I 0, I 0, I 0, B false]
 else
 g_curve_Middle_3 Qbh h1_2 x2 x6 h1_3 h1_4 x3 x7
 else
 g_curve_Middle_3 Qbh h1_2 x2 x6 h1_3 h1_4 x3 x7
attribute [go_sem] Qh7
abbrev g_curve_Middle_2 (x9 : Bool) (Qbh : Fn) (x2 x6 x3 x7 x0 x1 : Int) (Qbb : Fn) (x4 x5 x8 : Int) (Qa0 : Fn) : Option (List AC) :=
 bif x9 then
 Qh7 Qbh x2 x6 x3 x7 (IntKind.i64.wrap (0 - x0) == 0) (IntKind.i64.wrap (0 - x1) == 0) (I (IntKind.i64.wrap (0 - x0))) (I (IntKind.i64.wrap (IntKind.i64.wrap (IntKind.i64.wrap (0 - x0) * IntKind.i64.wrap (0 - x0)) + IntKind.i64.wrap (IntKind.i64.wrap (0 - x1) * IntKind.i64.wrap (0 - x1))))) (I (IntKind.i64.wrap (0 - x1)))
 else
 (Qbb [I x0, I x1, I x2, I x3, I x4, I x5, I x6, I x7]).bind fun o40 =>
 bif decide (gA o40 0 <= 0) then
 Qh7 Qbh x2 x6 x3 x7 (IntKind.i64.wrap (x8 * IntKind.i64.wrap (x5 - x1)) == 0) (IntKind.i64.wrap (x8 * IntKind.i64.wrap (x0 - x4)) == 0) (I (IntKind.i64.wrap (x8 * IntKind.i64.wrap (x5 - x1)))) (I (IntKind.i64.wrap (IntKind.i64.wrap (IntKind.i64.wrap (x8 * IntKind.i64.wrap (x5 - x1)) * IntKind.i64.wrap (x8 * IntKind.i64.wrap (x5 - x1))) + IntKind.i64.wrap (IntKind.i64.wrap (x8 * IntKind.i64.wrap (x0 - x4)) * IntKind.i64.wrap (x8 * IntKind.i64.wrap (x0 - x4)))))) (I (IntKind.i64.wrap (x8 * IntKind.i64.wrap (x0 - x4))))
 else
 (Qa0 [I x0, I x1, I x2, I x3, I x4, I x5, I x6, I x7]).bind fun o45 =>
 bif decide (IntKind.i64.wrap (gA o45 0 * x8) <= 0) then
 Qh7 Qbh x2 x6 x3 x7 (IntKind.i64.wrap (0 - IntKind.i64.wrap (x0 + x4)) == 0) (IntKind.i64.wrap (0 - IntKind.i64.wrap (x1 + x5)) == 0) (I (IntKind.i64.wrap (0 - IntKind.i64.wrap (x0 + x4)))) (I (IntKind.i64.wrap (IntKind.i64.wrap (IntKind.i64.wrap (0 - IntKind.i64.wrap (x0 + x4)) * IntKind.i64.wrap (0 - IntKind.i64.wrap (x0 + x4))) + IntKind.i64.wrap (IntKind.i64.wrap (0 - IntKind.i64.wrap (x1 + x5)) * IntKind.i64.wrap (0 - IntKind.i64.wrap (x1 + x5)))))) (I (IntKind.i64.wrap (0 - IntKind.i64.wrap (x1 + x5))))
 else
 Qh7 Qbh x2 x6 x3 x7 (IntKind.i64.wrap (x0 + x4) == 0) (IntKind.i64.wrap (x1 + x5) == 0) (I (IntKind.i64.wrap (x0 + x4))) (I (IntKind.i64.wrap (IntKind.i64.wrap (IntKind.i64.wrap (x0 + x4) * IntKind.i64.wrap (x0 + x4)) + IntKind.i64.wrap (IntKind.i64.wrap (x1 + x5) * IntKind.i64.wrap (x1 + x5))))) (I (IntKind.i64.wrap (x1 + x5)))
attribute [go_sem] g_curve_Middle_2
theorem mf_curve_Middle_eq (Qbh Qa0 Qbb : Fn) (x0 x1 x2 x3 x4 x5 x6 x7 x8 : Int) (x9 : Bool) : mf_curve_Middle Qbh Qa0 Qbb [I x0, I x1, I x2, I x3, I x4, I x5, I x6, I x7, I x8, B x9] =
 bif x8 != 1 then
 bif x8 != -1 then
 some [I 0, I 0, I 0, I 0, B false]
 else
 g_curve_Middle_2 x9 Qbh x2 x6 x3 x7 x0 x1 Qbb x4 x5 x8 Qa0
 else
 g_curve_Middle_2 x9 Qbh x2 x6 x3 x7 x0 x1 Qbb x4 x5 x8 Qa0 := by kernel_rfl
def Qgm := mf_curve_Middle Qgg Qdu Qeu 
theorem sp_curve_Middle : Qan Try.prog (C_curve_Middle_0 Qgg Qdu Qeu) := Qad rfl ⟨r_wide_Over, r_curve_cross, r_curve_dot, trivial⟩
theorem r_curve_Middle : Qbv Try.prog (158, spOf sig_curve_Middle osig_curve_Middle Qgm) := Qa7 (C := (C_curve_Middle_0 Qgg Qdu Qeu)) (L := 64) (by kernel_rfl) (FnOK.bare rfl rfl rfl) sp_curve_Middle eqOk Qbo (by kernel_rfl) (by kernel_rfl)
def sig_curve_Flat : Sk := { tmps := [tf [ci], tf [ci]], boxes := [], rows := [] }
def osig_curve_Flat : Sk := { tmps := [tf [CS.bool]], boxes := [], rows := [] }
def C_curve_Flat_0 : Cfg := { spec := Qbq [], eqOk := Qbw, ownOff := ownOff }
def mf_curve_Flat : Fn := Qat Try.prog C_curve_Flat_0 64 174 sig_curve_Flat osig_curve_Flat
theorem mf_curve_Flat_eq (x0 x1 : Int) : mf_curve_Flat [I x0, I x1] =
 some [B (decide (x1 <= IntKind.i64.wrap (IntKind.i64.wrap (IntKind.i64.wrap (8 * x0) * 4) - 64)))] := by kernel_rfl
def Qmj := mf_curve_Flat 
theorem sp_curve_Flat : Qan Try.prog (C_curve_Flat_0 ) := Qad rfl trivial
theorem r_curve_Flat : Qbv Try.prog (174, spOf sig_curve_Flat osig_curve_Flat Qmj) := Qa7 (C := C_curve_Flat_0) (L := 64) (by kernel_rfl) (FnOK.bare rfl rfl rfl) sp_curve_Flat eqOk Qbo (by kernel_rfl) (by kernel_rfl)
def Qg7 : Sk := { tmps := [tf [CS.ptr 20000 0], TS.v true [ci, ci, ci, ci], TS.v true [ci, ci, ci, ci], tf [CS.bool]], boxes := [(20000, 153, [ci, CS.own 20000 4])], rows := [(20000, 99, [kI, kI, kI, kI])] }
def Qgl : Sk := { tmps := [tf [CS.bool]], boxes := [(20000, 153, [ci, CS.own 20000 4])], rows := [(20000, 99, [kI, kI, kI, kI])] }
def Qgu (Qmf Qa0 : Fn) : Cfg := { spec := Qbq [(174, spOf sig_curve_Flat osig_curve_Flat Qmf), (122, spOf Qjh Qh5 Qa0)], eqOk := Qbw, ownOff := ownOff }
def Qhl (Qmf Qa0 : Fn) : Fn := Qat Try.prog (Qgu Qmf Qa0) 64 157 Qg7 Qgl
theorem mf_curve_cutter_settled_eq (Qmf Qa0 : Fn) (x0 : Rw) (x1 x2 x3 x4 x5 x6 x7 x8 : Int) (x9 : Bool) (x10 : Int) : Qhl Qmf Qa0 [.view [kI, kI, kI, kI] x0, I x1, I x2, I x3, I x4, I x5, I x6, I x7, I x8, B x9, I x10] =
 bif !x9 then
 (Qa0 [I x1, I x2, I x3, I x4, I x5, I x6, I x7, I x8]).bind fun o2 =>
 bif decide (IntKind.i64.wrap (gA o2 0 * x10) > 0) then
 (Qmf [I (mn x3 x7), I (IntKind.i64.wrap (IntKind.i64.wrap (IntKind.i64.wrap (x1 - x5) * IntKind.i64.wrap (x1 - x5)) + IntKind.i64.wrap (IntKind.i64.wrap (x2 - x6) * IntKind.i64.wrap (x2 - x6))))]).bind fun o3 =>
 some [.view [kI, kI, kI, kI] x0, B (bA o3 0), I x10]
 else
 some [.view [kI, kI, kI, kI] x0, B false, I x10]
 else
 some [.view [kI, kI, kI, kI] x0, B false, I x10] := by kernel_rfl
def Qc5 := Qhl Qmj Qdu 
theorem sp_curve_cutter_settled : Qan Try.prog (Qgu Qmj Qdu) := Qad rfl ⟨r_curve_Flat, r_curve_cross, trivial⟩
theorem r_curve_cutter_settled : Qbv Try.prog (157, spOf Qg7 Qgl Qc5) := Qa7 (C := (Qgu Qmj Qdu)) (L := 64) (by kernel_rfl) (FnOK.bare rfl rfl rfl) sp_curve_cutter_settled eqOk Qbo (by kernel_rfl) (by kernel_rfl)
def Qoj : Nat := 20
def Qb9 : Sk := { tmps := [tf [CS.ptr 20000 0], TS.v true [ci, ci, ci, ci], TS.v true [ci, ci, ci, ci], tf [CS.bool], tf [ci]], boxes := [(20000, 153, [ci, CS.own 20000 4])], rows := [(20000, 99, [kI, kI, kI, kI])] }
def Qb7 : Sk := { tmps := [TS.tup []], boxes := [(20000, 153, [ci, CS.own 20000 4])], rows := [(20000, 99, [kI, kI, kI, kI])] }
def Qip (Qa5 Qia Qdm : Fn) : Cfg := { spec := Qbq [(135, spOf Qb9 Qb7 Qa5), (158, spOf sig_curve_Middle osig_curve_Middle Qia), (157, spOf Qg7 Qgl Qdm)], eqOk := Qbw, pure := fun f => !(Qej [135, 157] f), ownOff := ownOff }
def Qgb (Qa5 Qia Qdm : Fn) : Fn := Qat Try.prog (Qip Qa5 Qia Qdm) 64 135 Qb9 Qb7
theorem Qmh (Qa5 Qia Qdm : Fn) (x0 : Rw) (x1 x2 x3 x4 x5 x6 x7 x8 : Int) (x9 : Bool) (x10 x11 : Int) : Qgb Qa5 Qia Qdm [.view [kI, kI, kI, kI] x0, I x1, I x2, I x3, I x4, I x5, I x6, I x7, I x8, B x9, I x10, I x11] =
 bif decide (x10 < 16) then
 (Qdm [.view [kI, kI, kI, kI] x0, I x1, I x2, I x3, I x4, I x5, I x6, I x7, I x8, B x9, I x11]).bind fun o4 =>
 bif !bA o4 1 then
 (Qia [I x1, I x2, I x3, I x4, I x5, I x6, I x7, I x8, jA o4 2, B x9]).bind fun o5 =>
 bif bA o5 4 then
 (Qa5 [.view [kI, kI, kI, kI] (wA o4 0), I x1, I x2, I x3, I x4, jA o5 0, jA o5 1, jA o5 2, jA o5 3, B false, I (IntKind.i64.wrap (x10 + 1)), jA o4 2]).bind fun o6 =>
 (Qa5 [.view [kI, kI, kI, kI] (wA o6 0), jA o5 0, jA o5 1, jA o5 2, jA o5 3, I x5, I x6, I x7, I x8, B false, I (IntKind.i64.wrap (x10 + 1)), jA o6 1]).bind fun o7 =>
 some [.view [kI, kI, kI, kI] (wA o7 0), jA o7 1]
 else
 bif ((wA o4 0 ++ [[I x5, I x6, I x7, I x8]]).length * 32).ble 140737488355328 then
 some [.view [kI, kI, kI, kI] (wA o4 0 ++ [[I x5, I x6, I x7, I x8]]), jA o4 2]
 else
 none
 else
 bif ((wA o4 0 ++ [[I x5, I x6, I x7, I x8]]).length * 32).ble 140737488355328 then
 some [.view [kI, kI, kI, kI] (wA o4 0 ++ [[I x5, I x6, I x7, I x8]]), jA o4 2]
 else
 none
 else
 bif ((x0 ++ [[I x5, I x6, I x7, I x8]]).length * 32).ble 140737488355328 then
 some [.view [kI, kI, kI, kI] (x0 ++ [[I x5, I x6, I x7, I x8]]), I x11]
 else
 none := by kernel_rfl
def mG_curve_cutter_piece (M : Fn) : Fn := Qgb M Qgm Qc5 
def Qd2 : Nat -> Fn
 | 0 => fun _ => none
 | n + 1 => mG_curve_cutter_piece (Qd2 n)
theorem sp_curve_cutter_piece {M : Fn} (h : Qbv Try.prog (135, spOf Qb9 Qb7 M)) : Qan Try.prog (Qip M Qgm Qc5) := Qad rfl ⟨h, r_curve_Middle, r_curve_cutter_settled, trivial⟩
theorem rG_curve_cutter_piece {M : Fn} (h : Qbv Try.prog (135, spOf Qb9 Qb7 M)) : Qbv Try.prog (135, spOf Qb9 Qb7 (mG_curve_cutter_piece M)) := Qa7 (C := (Qip M Qgm Qc5)) (L := 64) (by kernel_rfl) (FnOK.bare rfl rfl rfl) (sp_curve_cutter_piece h) eqOk Qbo (by kernel_rfl) (by kernel_rfl)
theorem rR_curve_cutter_piece : ∀ n, Qbv Try.prog (135, spOf Qb9 Qb7 (Qd2 n))
 | 0 => row_none
 | n + 1 => rG_curve_cutter_piece (rR_curve_cutter_piece n)
def Qgs := Qd2 Qoj
theorem r_curve_cutter_piece : Qbv Try.prog (135, spOf Qb9 Qb7 Qgs) := rR_curve_cutter_piece Qoj
def sig_wide_root : Sk := { tmps := [TS.v true [CS.int .u64, CS.int .u64], tf [ci]], boxes := [], rows := [] }
def osig_wide_root : Sk := { tmps := [TS.tup [(false, [ci]), (false, [CS.bool])]], boxes := [], rows := [] }
def C_wide_root_0 (Qah Qi7 Qd1 Qb4 : Fn) : Cfg := { spec := Qbq [(146, spOf Qi9 Qh3 Qah), (173, spOf sig_bits_Sub64 Qnq Qi7), (147, spOf Qkz Qjb Qd1), (172, spOf Qit Qhe Qb4)], eqOk := Qbw, ownOff := ownOff }
def mf_wide_root (Qah Qi7 Qd1 Qb4 : Fn) : Fn := Qat Try.prog (C_wide_root_0 Qah Qi7 Qd1 Qb4) 64 156 sig_wide_root osig_wide_root
abbrev g_wide_root_1 (x2 : Int) (o17 : List AC) (Qah : Fn) (o14 o16 : List AC) : Option (List AC) :=
 bif x2 == 2 then
 bif decide (gA o17 0 > 0) then
 (Qah [U (IntKind.u64.wrap (gA o14 0 + 1)), B false]).bind fun o20 =>
 some [jA o20 0, B (bA o20 1)]
 else
 bif decide (gA o16 0 > gA o14 0) then
 (Qah [U (IntKind.u64.wrap (gA o14 0 + 1)), B false]).bind fun o21 =>
 some [jA o21 0, B (bA o21 1)]
 else
 (Qah [U (gA o14 0), B false]).bind fun o22 =>
 some [jA o22 0, B (bA o22 1)]
 else
 (Qah [U (gA o14 0), B false]).bind fun o23 =>
 some [jA o23 0, B (bA o23 1)]
attribute [go_sem] g_wide_root_1
theorem mf_wide_root_eq (Qah Qi7 Qd1 Qb4 : Fn) (x0 x1 x2 : Int) : mf_wide_root Qah Qi7 Qd1 Qb4 [U x0, U x1, I x2] =
 (Qb4 [U x0, U x1]).bind fun o14 =>
 (Qd1 [U (gA o14 0), U (gA o14 0)]).bind fun o15 =>
 (Qi7 [U x1, U (gA o15 1), U 0]).bind fun o16 =>
 (Qi7 [U x0, U (gA o15 0), U (gA o16 1)]).bind fun o17 =>
 bif x2 == 1 then
 bif decide (gA o17 0 > 0) then
 (Qah [U (IntKind.u64.wrap (gA o14 0 + 1)), B false]).bind fun o18 =>
 some [jA o18 0, B (bA o18 1)]
 else
 bif decide (gA o16 0 > 0) then
 (Qah [U (IntKind.u64.wrap (gA o14 0 + 1)), B false]).bind fun o19 =>
 some [jA o19 0, B (bA o19 1)]
 else
 g_wide_root_1 x2 o17 Qah o14 o16
 else
 g_wide_root_1 x2 o17 Qah o14 o16 := by kernel_rfl
def m_wide_root := mf_wide_root Qcq Qe8 Qed Qef 
theorem sp_wide_root : Qan Try.prog (C_wide_root_0 Qcq Qe8 Qed Qef) := Qad rfl ⟨r_wide_signed, r_bits_Sub64, r_bits_Mul64, r_wide_floorRoot, trivial⟩
theorem r_wide_root : Qbv Try.prog (156, spOf sig_wide_root osig_wide_root m_wide_root) := Qa7 (C := (C_wide_root_0 Qcq Qe8 Qed Qef)) (L := 64) (by kernel_rfl) (FnOK.bare rfl rfl rfl) sp_wide_root eqOk Qbo (by kernel_rfl) (by kernel_rfl)
def sig_wide_Sqrt : Sk := { tmps := [tf [ci], tf [ci]], boxes := [], rows := [] }
def osig_wide_Sqrt : Sk := { tmps := [TS.tup [(false, [ci]), (false, [CS.bool])]], boxes := [], rows := [] }
def C_wide_Sqrt_0 (M_wide_root Qbz : Fn) : Cfg := { spec := Qbq [(156, spOf sig_wide_root osig_wide_root M_wide_root), (143, spOf Qk2 Qi2 Qbz)], eqOk := Qbw, ownOff := ownOff }
def mf_wide_Sqrt (M_wide_root Qbz : Fn) : Fn := Qat Try.prog (C_wide_Sqrt_0 M_wide_root Qbz) 64 134 sig_wide_Sqrt osig_wide_Sqrt
theorem mf_wide_Sqrt_eq (M_wide_root Qbz : Fn) (x0 x1 : Int) : mf_wide_Sqrt M_wide_root Qbz [I x0, I x1] =
 bif decide (x0 < 0) then
 some [I 0, B false]
 else
 (Qbz [I x1]).bind fun o2 =>
 bif !bA o2 0 then
 some [I 0, B false]
 else
 (M_wide_root [U 0, U (IntKind.u64.wrap x0), I x1]).bind fun o3 =>
 some [jA o3 0, B (bA o3 1)] := by kernel_rfl
def Qhb := mf_wide_Sqrt m_wide_root Qd0 
theorem sp_wide_Sqrt : Qan Try.prog (C_wide_Sqrt_0 m_wide_root Qd0) := Qad rfl ⟨r_wide_root, r_wide_known, trivial⟩
theorem r_wide_Sqrt : Qbv Try.prog (134, spOf sig_wide_Sqrt osig_wide_Sqrt Qhb) := Qa7 (C := (C_wide_Sqrt_0 m_wide_root Qd0)) (L := 64) (by kernel_rfl) (FnOK.bare rfl rfl rfl) sp_wide_Sqrt eqOk Qbo (by kernel_rfl) (by kernel_rfl)
def sig_curve_Spokes : Sk := { tmps := [TS.v true [ci, ci, ci, ci, ci, ci, ci, ci, ci, ci, ci, ci, ci, CS.bool, ci, CS.bool, ci, ci, ci, ci, ci, CS.bool]], boxes := [], rows := [] }
def osig_curve_Spokes : Sk := { tmps := [TS.tup [(false, [CS.sl [kI, kI, kI, kI]]), (false, [CS.bool])]], boxes := [], rows := [] }
def C_curve_Spokes_0 (Qa5 Qd5 Qbb Qc3 Qai : Fn) : Cfg := { spec := Qbq [(135, spOf Qb9 Qb7 Qa5), (134, spOf sig_wide_Sqrt osig_wide_Sqrt Qd5), (120, spOf Qnx Qkx Qbb), (119, spOf sig_curve_ends Qoh Qc3), (66, spOf Qfj Qew Qai)], eqOk := Qbw, pure := fun f => !(Qej [135] f), ownOff := ownOff, rowDst := [39] }
def mf_curve_Spokes (Qa5 Qd5 Qbb Qc3 Qai : Fn) : Fn := Qat Try.prog (C_curve_Spokes_0 Qa5 Qd5 Qbb Qc3 Qai) 64 92 sig_curve_Spokes osig_curve_Spokes
theorem mf_curve_Spokes_eq (Qa5 Qd5 Qbb Qc3 Qai : Fn) (x0 x1 x2 x3 x4 x5 x6 x7 x8 x9 x10 x11 x12 : Int) (x13 : Bool) (x14 : Int) (x15 : Bool) (x16 x17 x18 x19 x20 : Int) (x21 : Bool) : mf_curve_Spokes Qa5 Qd5 Qbb Qc3 Qai [I x0, I x1, I x2, I x3, I x4, I x5, I x6, I x7, I x8, I x9, I x10, I x11, I x12, B x13, I x14, B x15, I x16, I x17, I x18, I x19, I x20, B x21] =
 bif x0 != 3 then
 some [.view [kI, kI, kI, kI] [], B false]
 else
 (Qai [I x0, I x1, I x2, I x3, I x4, I x5, I x6, I x7, I x8, I x9, I x10, I x11, I x12, B x13, I x14, B x15, I x16, I x17, I x18, I x19, I x20, B x21]).bind fun o7 =>
 bif !bA o7 0 then
 some [.view [kI, kI, kI, kI] [], B false]
 else
 (Qc3 [I x0, I x1, I x2, I x3, I x4, I x5, I x6, I x7, I x8, I x9, I x10, I x11, I x12, B x13, I x14, B x15, I x16, I x17, I x18, I x19, I x20, B x21]).bind fun o8 =>
 (Qbb [jA o8 0, jA o8 1, jA o8 2, jA o8 3, jA o8 0, jA o8 1, jA o8 2, jA o8 3]).bind fun o9 =>
 (Qd5 [jA o9 0, I 2]).bind fun o10 =>
 (Qbb [jA o8 4, jA o8 5, jA o8 6, jA o8 7, jA o8 4, jA o8 5, jA o8 6, jA o8 7]).bind fun o11 =>
 (Qd5 [jA o11 0, I 2]).bind fun o12 =>
 (Qa5 [.view [kI, kI, kI, kI] [[jA o8 0, jA o8 1, jA o10 0, jA o8 3]], jA o8 0, jA o8 1, jA o10 0, jA o8 3, jA o8 4, jA o8 5, jA o12 0, jA o8 7, B x13, I 0, I x12]).bind fun o13 =>
 some [.view [kI, kI, kI, kI] (wA o13 0), B true] := by kernel_rfl
def Qid := mf_curve_Spokes Qgs Qhb Qeu Qg9 Qbx 
theorem sp_curve_Spokes : Qan Try.prog (C_curve_Spokes_0 Qgs Qhb Qeu Qg9 Qbx) := Qad rfl ⟨r_curve_cutter_piece, r_wide_Sqrt, r_curve_dot, r_curve_ends, Qm1, trivial⟩
theorem r_curve_Spokes : Qbv Try.prog (92, spOf sig_curve_Spokes osig_curve_Spokes Qid) := Qa7 (C := (C_curve_Spokes_0 Qgs Qhb Qeu Qg9 Qbx)) (L := 64) (by kernel_rfl) (FnOK.bare rfl rfl rfl) sp_curve_Spokes eqOk Qbo (by kernel_rfl) (by kernel_rfl)
def sig_curve_Chords : Sk := { tmps := [TS.v true [ci, ci, ci, ci, ci, ci, ci, ci, ci, ci, ci, ci, ci, CS.bool, ci, CS.bool, ci, ci, ci, ci, ci, CS.bool]], boxes := [], rows := [] }
def osig_curve_Chords : Sk := { tmps := [TS.tup [(false, [CS.sl kPt]), (false, [CS.bool])]], boxes := [], rows := [] }
def C_curve_Chords_0 (Qdw Qaj Qao Qdd Qai : Fn) : Cfg := { spec := Qbq [(94, spOf sig_curve_Space osig_curve_Space Qdw), (67, spOf Qjg Qh0 Qaj), (93, spOf Qll Qka Qao), (92, spOf sig_curve_Spokes osig_curve_Spokes Qdd), (66, spOf Qfj Qew Qai)], eqOk := Qbw, ownOff := ownOff }
def sk_curve_Chords_9 : Sk := { tmps := [td, tf [CS.ptr 1 0], td, td, td, td, tf [ci], tf [ci], td, tf [CS.own 41 3], td, td, td, td, td, td, td, td, td, td, td, td, td, td, td, td, td, td, td, td, td, td, td, td, td, td, td, td, td, td, td, td, tf [CS.sl [kI, kI, kI, kI]], tf [ci], tf [ci]] ++ dd 22, boxes := [(1, 33, [ci, ci, ci, ci, ci, ci, ci, ci, ci, ci, ci, ci, ci, CS.bool, ci, CS.bool, ci, ci, ci, ci, ci, CS.bool])], rows := [(41, 23, kPt)] }
def ex_curve_Chords_9 : List (Ex × Sk) := [(Ex.exit 0, { tmps := [td, td, td, td, td, td, td, td, td, tf [CS.own 41 3]] ++ dd 57, boxes := [], rows := [(41, 23, kPt)] })]
def Qff (Qdw Qaj Qao Qdd Qai : Fn) : Lp := stepL Try.prog (C_curve_Chords_0 Qdw Qaj Qao Qdd Qai) 64 9 (Qhz Try.prog 41 9) sk_curve_Chords_9 ex_curve_Chords_9
def C_curve_Chords_1 (Qdw Qaj Qao Qdd Qai : Fn) (N9 : Lp) : Cfg := (C_curve_Chords_0 Qdw Qaj Qao Qdd Qai).loop 9 sk_curve_Chords_9 ex_curve_Chords_9 N9
def Qnj (Qdw Qaj Qao Qdd Qai : Fn) (N9 : Lp) : Fn := Qat Try.prog (C_curve_Chords_1 Qdw Qaj Qao Qdd Qai N9) 64 41 sig_curve_Chords osig_curve_Chords
theorem st_curve_Chords_9_eq (Qdw Qaj Qao Qdd Qai : Fn) (v0 : Rw) (v1 v2 : Int) (v3 : Rw) (v4 v5 v6 v7 v8 v9 v10 v11 v12 v13 v14 v15 v16 v17 v18 : Int) (v19 : Bool) (v20 : Int) (v21 : Bool) (v22 v23 v24 v25 v26 : Int) (v27 : Bool) : Qff Qdw Qaj Qao Qdd Qai [.view kPt v0, I v1, I v2, .view [kI, kI, kI, kI] v3, I v4, I v5, I v6, I v7, I v8, I v9, I v10, I v11, I v12, I v13, I v14, I v15, I v16, I v17, I v18, B v19, I v20, B v21, I v22, I v23, I v24, I v25, I v26, B v27] =
 bif decide (v5 < v4) then
 bif decide (0 <= v5) && decide (v5 < (v3.length : Int)) then
 (Qdw [I (IntKind.i64.wrap (v1 + gA (nth [] v3 v5.toNat) 0)), I (IntKind.i64.wrap (v2 + gA (nth [] v3 v5.toNat) 1)), jA (nth [] v3 v5.toNat) 3, I v14]).bind fun o14 =>
 bif decide (0 <= v5) && decide (v5 < (v0.length : Int)) then
 some (0, [.view kPt (v0.set v5.toNat [jA o14 0, jA o14 1, jA o14 2]), I v1, I v2, .view [kI, kI, kI, kI] v3, I v4, I (IntKind.i64.wrap (v5 + 1)), I v6, I v7, I v8, I v9, I v10, I v11, I v12, I v13, I v14, I v15, I v16, I v17, I v18, B v19, I v20, B v21, I v22, I v23, I v24, I v25, I v26, B v27])
 else
 none
 else
 none
 else
 some (1, [.view kPt v0]) := by kernel_rfl
theorem Qn7 (Qdw Qaj Qao Qdd Qai : Fn) (N9 : Lp) (x0 x1 x2 x3 x4 x5 x6 x7 x8 x9 x10 x11 x12 : Int) (x13 : Bool) (x14 : Int) (x15 : Bool) (x16 x17 x18 x19 x20 : Int) (x21 : Bool) : Qnj Qdw Qaj Qao Qdd Qai N9 [I x0, I x1, I x2, I x3, I x4, I x5, I x6, I x7, I x8, I x9, I x10, I x11, I x12, B x13, I x14, B x15, I x16, I x17, I x18, I x19, I x20, B x21] =
 (Qai [I x0, I x1, I x2, I x3, I x4, I x5, I x6, I x7, I x8, I x9, I x10, I x11, I x12, B x13, I x14, B x15, I x16, I x17, I x18, I x19, I x20, B x21]).bind fun o15 =>
 bif !bA o15 0 then
 some [.view kPt [], B false]
 else
 (Qdd [I x0, I x1, I x2, I x3, I x4, I x5, I x6, I x7, I x8, I x9, I x10, I x11, I x12, B x13, I x14, B x15, I x16, I x17, I x18, I x19, I x20, B x21]).bind fun o16 =>
 bif !bA o16 1 then
 (Qao [I x2, I x3, I x4]).bind fun o17 =>
 (Qao [I x5, I x6, I x7]).bind fun o18 =>
 some [.view kPt [[jA o17 0, jA o17 1, jA o17 2], [jA o18 0, jA o18 1, jA o18 2]], B true]
 else
 (Qao [I x9, I x10, I x11]).bind fun o19 =>
 (Qaj [jA o19 0, jA o19 1, jA o19 2, I x8]).bind fun o20 =>
 bif decide ((↑(wA o16 0).length : Int) = (↑(wA o16 0).length : Int)) then
 bif decide (0 <= (↑(wA o16 0).length : Int)) && decide ((↑(wA o16 0).length : Int) * (↑24 : Int) <= 140737488355328) then
 (N9 [.view kPt (List.replicate (↑(wA o16 0).length : Int).toNat [I 0, I 0, I 0]), jA o20 0, jA o20 1, .view [kI, kI, kI, kI] (wA o16 0), I (↑(wA o16 0).length : Int), I 0, I x0, I x1, I x2, I x3, I x4, I x5, I x6, I x7, I x8, I x9, I x10, I x11, I x12, B x13, I x14, B x15, I x16, I x17, I x18, I x19, I x20, B x21]).bind fun o21 =>
 bif o21.1.beq 1 then
 some [.view kPt (wA o21.2 0), B true]
 else
 none
 else
 none
 else
 none := by kernel_rfl
def l_curve_Chords_9 := Qb1 (Qff Qjy Qdj Qdp Qid Qbx )
def Qk7 := Qnj Qjy Qdj Qdp Qid Qbx l_curve_Chords_9
theorem sp_curve_Chords : Qan Try.prog (C_curve_Chords_0 Qjy Qdj Qdp Qid Qbx) := Qad rfl ⟨r_curve_Space, r_curve_Plane, r_curve_scaled, r_curve_Spokes, Qm1, trivial⟩
theorem r_curve_Chords : Qbv Try.prog (41, spOf sig_curve_Chords osig_curve_Chords Qk7) := Qa7 (C := (C_curve_Chords_1 Qjy Qdj Qdp Qid Qbx l_curve_Chords_9)) (L := 64) (by kernel_rfl) ((FnOK.bare rfl rfl rfl).loop sp_curve_Chords eqOk Qbo (by kernel_rfl) (by kernel_rfl)) sp_curve_Chords eqOk Qbo (by kernel_rfl) (by kernel_rfl)
def sig_contour_moves : Sk := { tmps := [TS.v true [ci, ci, ci, ci, ci, ci, ci, ci, ci, ci, ci, ci, ci, CS.bool, ci, CS.bool, ci, ci, ci, ci, ci, CS.bool]], boxes := [], rows := [] }
def Qmy : Sk := { tmps := [tf [CS.bool]], boxes := [], rows := [] }
def C_contour_moves_0 : Cfg := { spec := Qbq [], eqOk := Qbw, ownOff := ownOff }
def mf_contour_moves : Fn := Qat Try.prog C_contour_moves_0 64 103 sig_contour_moves Qmy
theorem mf_contour_moves_eq (x0 x1 x2 x3 x4 x5 x6 x7 x8 x9 x10 x11 x12 : Int) (x13 : Bool) (x14 : Int) (x15 : Bool) (x16 x17 x18 x19 x20 : Int) (x21 : Bool) : mf_contour_moves [I x0, I x1, I x2, I x3, I x4, I x5, I x6, I x7, I x8, I x9, I x10, I x11, I x12, B x13, I x14, B x15, I x16, I x17, I x18, I x19, I x20, B x21] =
 bif decide (x0 >= 1) then
 some [B (decide (x0 <= 6))]
 else
 some [B false] := by kernel_rfl
def Qd6 := mf_contour_moves 
theorem sp_contour_moves : Qan Try.prog (C_contour_moves_0 ) := Qad rfl trivial
theorem r_contour_moves : Qbv Try.prog (103, spOf sig_contour_moves Qmy Qd6) := Qa7 (C := C_contour_moves_0) (L := 64) (by kernel_rfl) (FnOK.bare rfl rfl rfl) sp_contour_moves eqOk Qbo (by kernel_rfl) (by kernel_rfl)
def sig_contour_Slack : Sk := { tmps := [tf [CS.sl kItm]], boxes := [], rows := [] }
def Qoe : Sk := { tmps := [tf [ci]], boxes := [], rows := [] }
def C_contour_Slack_0 (Qcy : Fn) : Cfg := { spec := Qbq [(103, spOf sig_contour_moves Qmy Qcy)], eqOk := Qbw, ownOff := ownOff }
def sk_contour_Slack_3 : Sk := { tmps := [td, td, td, tf [ci], td, td, tf [CS.sl kItm], tf [ci], tf [ci]] ++ dd 13, boxes := [], rows := [] }
def ex_contour_Slack_3 : List (Ex × Sk) := [(Ex.exit 0, { tmps := [td, td, td, tf [ci]] ++ dd 18, boxes := [], rows := [] })]
def Qiv (Qcy : Fn) : Lp := stepL Try.prog (C_contour_Slack_0 Qcy) 64 3 (Qhz Try.prog 53 3) sk_contour_Slack_3 ex_contour_Slack_3
def C_contour_Slack_1 (Qcy : Fn) (N3 : Lp) : Cfg := (C_contour_Slack_0 Qcy).loop 3 sk_contour_Slack_3 ex_contour_Slack_3 N3
def mf_contour_Slack (Qcy : Fn) (N3 : Lp) : Fn := Qat Try.prog (C_contour_Slack_1 Qcy N3) 64 53 sig_contour_Slack Qoe
theorem st_contour_Slack_3_eq (Qcy : Fn) (v0 : Int) (v1 : Rw) (v2 v3 : Int) : Qiv Qcy [I v0, .view kItm v1, I v2, I v3] =
 bif decide (v3 < v2) then
 bif decide (0 <= v3) && decide (v3 < (v1.length : Int)) then
 (Qcy [jA (nth [] v1 v3.toNat) 0, jA (nth [] v1 v3.toNat) 1, jA (nth [] v1 v3.toNat) 2, jA (nth [] v1 v3.toNat) 3, jA (nth [] v1 v3.toNat) 4, jA (nth [] v1 v3.toNat) 5, jA (nth [] v1 v3.toNat) 6, jA (nth [] v1 v3.toNat) 7, jA (nth [] v1 v3.toNat) 8, jA (nth [] v1 v3.toNat) 9, jA (nth [] v1 v3.toNat) 10, jA (nth [] v1 v3.toNat) 11, jA (nth [] v1 v3.toNat) 12, B (bA (nth [] v1 v3.toNat) 13), jA (nth [] v1 v3.toNat) 14, B (bA (nth [] v1 v3.toNat) 15), jA (nth [] v1 v3.toNat) 16, jA (nth [] v1 v3.toNat) 17, jA (nth [] v1 v3.toNat) 18, jA (nth [] v1 v3.toNat) 19, jA (nth [] v1 v3.toNat) 20, B (bA (nth [] v1 v3.toNat) 21)]).bind fun o2 =>
 bif bA o2 0 then
 some (0, [I (mx v0 (gA (nth [] v1 v3.toNat) 18)), .view kItm v1, I v2, I (IntKind.i64.wrap (v3 + 1))])
 else
 some (0, [I v0, .view kItm v1, I v2, I (IntKind.i64.wrap (v3 + 1))])
 else
 none
 else
 some (1, [I v0]) := by kernel_rfl
theorem mf_contour_Slack_eq (Qcy : Fn) (N3 : Lp) (x0 : Rw) : mf_contour_Slack Qcy N3 [.view kItm x0] =
 (N3 [I 0, .view kItm x0, I (x0.length : Int), I 0]).bind fun o3 =>
 bif o3.1.beq 1 then
 some [I (IntKind.i64.wrap (7 + IntKind.i64.wrap (16 * gA o3.2 0)))]
 else
 none := by kernel_rfl
def Qj2 := Qb1 (Qiv Qd6 )
def Qfu := mf_contour_Slack Qd6 Qj2
theorem sp_contour_Slack : Qan Try.prog (C_contour_Slack_0 Qd6) := Qad rfl ⟨r_contour_moves, trivial⟩
theorem r_contour_Slack : Qbv Try.prog (53, spOf sig_contour_Slack Qoe Qfu) := Qa7 (C := (C_contour_Slack_1 Qd6 Qj2)) (L := 64) (by kernel_rfl) ((FnOK.bare rfl rfl rfl).loop sp_contour_Slack eqOk Qbo (by kernel_rfl) (by kernel_rfl)) sp_contour_Slack eqOk Qbo (by kernel_rfl) (by kernel_rfl)
def Qjk : Sk := { tmps := [tf [ci], tf [ci], tf [ci], tf [ci]], boxes := [], rows := [] }
def Qhu : Sk := { tmps := [TS.tup [(false, [ci]), (false, [CS.bool])]], boxes := [], rows := [] }
def C_wide_MulDiv_0 (Qah Qa8 Qbu Qdk Qak Qbg Qbz : Fn) : Cfg := { spec := Qbq [(146, spOf Qi9 Qh3 Qah), (145, spOf sig_wide_grows Qod Qa8), (104, spOf Qnl Qk0 Qbu), (144, spOf sig_bits_Div64 Qnw Qdk), (106, spOf Qf4 Qfe Qak), (107, spOf Qon Qk8 Qbg), (143, spOf Qk2 Qi2 Qbz)], eqOk := Qbw, ownOff := ownOff }
def mf_wide_MulDiv (Qah Qa8 Qbu Qdk Qak Qbg Qbz : Fn) : Fn := Qat Try.prog (C_wide_MulDiv_0 Qah Qa8 Qbu Qdk Qak Qbg Qbz) 64 98 Qjk Qhu
abbrev Qoi (Qa8 : Fn) (x3 : Int) (o31 : List AC) (Qah : Fn) (h1_0 h1_1 : AC) : Option (List AC) :=
 (Qa8 [I x3, h1_0, B (decide (gA o31 1 > 0)), h1_1]).bind fun o34 =>
 bif bA o34 0 then
 bif IntKind.u64.wrap (gA o31 0 + 1) == 0 then
 some [I 0, B false]
 else
 (Qah [U (IntKind.u64.wrap (gA o31 0 + 1)), h1_1]).bind fun o35 =>
 some [jA o35 0, B (bA o35 1)]
 else
 (Qah [U (gA o31 0), h1_1]).bind fun o36 =>
 some [jA o36 0, B (bA o36 1)]
attribute [go_sem] Qoi
abbrev g_wide_MulDiv_2 (o31 o30 : List AC) (Qa8 : Fn) (x3 : Int) (Qah : Fn) (h2_0 : AC) : Option (List AC) :=
 bif decide (gA o31 1 > IntKind.u64.wrap (gA o30 0 - gA o31 1)) then
 Qoi Qa8 x3 o31 Qah (I 1) h2_0
 else
 bif decide (gA o31 1 < IntKind.u64.wrap (gA o30 0 - gA o31 1)) then
 Qoi Qa8 x3 o31 Qah (I (-1)) h2_0
 else
 Qoi Qa8 x3 o31 Qah (I 0) h2_0
attribute [go_sem] g_wide_MulDiv_2
theorem mf_wide_MulDiv_eq (Qah Qa8 Qbu Qdk Qak Qbg Qbz : Fn) (x0 x1 x2 x3 : Int) : mf_wide_MulDiv Qah Qa8 Qbu Qdk Qak Qbg Qbz [I x0, I x1, I x2, I x3] =
 bif x2 == 0 then
 some [I 0, B false]
 else
 (Qbz [I x3]).bind fun o26 =>
 bif !bA o26 0 then
 some [I 0, B false]
 else
 (Qbg [I x0]).bind fun o27 =>
 (Qbg [I x1]).bind fun o28 =>
 (Qak [U (gA o27 0), U (gA o28 0)]).bind fun o29 =>
 (Qbg [I x2]).bind fun o30 =>
 bif decide (gA o29 0 >= gA o30 0) then
 some [I 0, B false]
 else
 (Qdk [U (gA o29 0), U (gA o29 1), U (gA o30 0)]).bind fun o31 =>
 (Qbu [I x0, I x1]).bind fun o32 =>
 bif !decide (gA o32 0 < 0) == decide (x2 < 0) then
 (Qbu [I x0, I x1]).bind fun o33 =>
 g_wide_MulDiv_2 o31 o30 Qa8 x3 Qah (B (gA o33 0 != 0))
 else
 g_wide_MulDiv_2 o31 o30 Qa8 x3 Qah (B false) := by kernel_rfl
def Qb6 := mf_wide_MulDiv Qcq Qfc Qel Qeg Qbp Qem Qd0 
theorem sp_wide_MulDiv : Qan Try.prog (C_wide_MulDiv_0 Qcq Qfc Qel Qeg Qbp Qem Qd0) := Qad rfl ⟨r_wide_signed, r_wide_grows, r_wide_sign, r_bits_Div64, r_wide_product, r_wide_size, r_wide_known, trivial⟩
theorem r_wide_MulDiv : Qbv Try.prog (98, spOf Qjk Qhu Qb6) := Qa7 (C := (C_wide_MulDiv_0 Qcq Qfc Qel Qeg Qbp Qem Qd0)) (L := 64) (by kernel_rfl) (FnOK.bare rfl rfl rfl) sp_wide_MulDiv eqOk Qbo (by kernel_rfl) (by kernel_rfl)
def sig_path_Find : Sk := { tmps := [TS.v true [ci, ci, ci, CS.sl kSgm, CS.sl kPt], tf [ci]], boxes := [], rows := [] }
def osig_path_Find : Sk := { tmps := [TS.tup [(false, [ci]), (false, [ci])]], boxes := [], rows := [] }
def C_path_Find_0 : Cfg := { spec := Qbq [], eqOk := Qbw, ownOff := ownOff }
def sk_path_Find_3 : Sk := { tmps := [td, tf [ci], tf [CS.ptr 2 0], td, td, td, td, td, td, td, td, tf [CS.sl kSgm], tf [ci], tf [ci]] ++ dd 24, boxes := [(2, 51, [ci, ci, ci, CS.sl kSgm, CS.sl kPt])], rows := [] }
def ex_path_Find_3 : List (Ex × Sk) := [(Ex.ret, { tmps := [td, td, td, td, tf [ci], tf [ci]] ++ dd 32, boxes := [], rows := [] }), (Ex.exit 0, { tmps := [td] ++ dd 37, boxes := [], rows := [] })]
def st_path_Find_3 : Lp := stepL Try.prog C_path_Find_0 64 3 (Qhz Try.prog 97 3) sk_path_Find_3 ex_path_Find_3
def C_path_Find_1 (N3 : Lp) : Cfg := C_path_Find_0.loop 3 sk_path_Find_3 ex_path_Find_3 N3
def mf_path_Find (N3 : Lp) : Fn := Qat Try.prog (C_path_Find_1 N3) 64 97 sig_path_Find osig_path_Find
theorem st_path_Find_3_eq (v0 : Int) (v1 : Rw) (v2 v3 v4 v5 v6 : Int) (v7 v8 : Rw) : st_path_Find_3 [I v0, .view kSgm v1, I v2, I v3, I v4, I v5, I v6, .view kSgm v7, .view kPt v8] =
 bif decide (v3 < v2) then
 bif decide (0 <= v3) && decide (v3 < (v1.length : Int)) then
 bif decide (v0 < gA (nth [] v1 v3.toNat) 3) then
 some (1, [I v3, I v0])
 else
 bif v3 == IntKind.i64.wrap ((v7.length : Int) - 1) then
 some (1, [I v3, jA (nth [] v1 v3.toNat) 3])
 else
 some (0, [I (IntKind.i64.wrap (v0 - gA (nth [] v1 v3.toNat) 3)), .view kSgm v1, I v2, I (IntKind.i64.wrap (v3 + 1)), I v4, I v5, I v6, .view kSgm v7, .view kPt v8])
 else
 none
 else
 some (2, []) := by kernel_rfl
theorem mf_path_Find_eq (N3 : Lp) (x0 x1 x2 : Int) (x3 x4 : Rw) (x5 : Int) : mf_path_Find N3 [I x0, I x1, I x2, .view kSgm x3, .view kPt x4, I x5] =
 (N3 [I (mx x5 0), .view kSgm x3, I (x3.length : Int), I 0, I x0, I x1, I x2, .view kSgm x3, .view kPt x4]).bind fun o1 =>
 bif o1.1.beq 1 then
 some [jA o1.2 0, jA o1.2 1]
 else
 bif o1.1.beq 2 then
 some [I (-1), I 0]
 else
 none := by kernel_rfl
def Qj4 := Qb1 (st_path_Find_3 )
def Ql0 := mf_path_Find Qj4
theorem sp_path_Find : Qan Try.prog (C_path_Find_0 ) := Qad rfl trivial
theorem r_path_Find : Qbv Try.prog (97, spOf sig_path_Find osig_path_Find Ql0) := Qa7 (C := (C_path_Find_1 Qj4)) (L := 64) (by kernel_rfl) ((FnOK.bare rfl rfl rfl).loop sp_path_Find eqOk Qbo (by kernel_rfl) (by kernel_rfl)) sp_path_Find eqOk Qbo (by kernel_rfl) (by kernel_rfl)
def sig_path_At : Sk := { tmps := [TS.v true [ci, ci, ci, CS.sl kSgm, CS.sl kPt], tf [ci]], boxes := [], rows := [] }
def osig_path_At : Sk := { tmps := [TS.v true [ci, ci, ci]], boxes := [], rows := [] }
def C_path_At_0 (Qam Qlq : Fn) : Cfg := { spec := Qbq [(98, spOf Qjk Qhu Qam), (97, spOf sig_path_Find osig_path_Find Qlq)], eqOk := Qbw, ownOff := ownOff, unroll := [9] }
def mf_path_At (Qam Qlq : Fn) : Fn := Qat Try.prog (C_path_At_0 Qam Qlq) 64 45 sig_path_At osig_path_At
theorem mf_path_At_eq (Qam Qlq : Fn) (x0 x1 x2 : Int) (x3 x4 : Rw) (x5 : Int) : mf_path_At Qam Qlq [I x0, I x1, I x2, .view kSgm x3, .view kPt x4, I x5] =
 (Qlq [I x0, I x1, I x2, .view kSgm x3, .view kPt x4, I x5]).bind fun o7 =>
 bif decide (gA o7 0 < 0) then
 some [I x0, I x1, I x2]
 else
 bif decide (gA o7 0 > 0) then
 bif decide (0 <= IntKind.i64.wrap (gA o7 0 - 1)) && decide (IntKind.i64.wrap (gA o7 0 - 1) < (x3.length : Int)) then
 bif decide (0 <= gA o7 0) && decide (gA o7 0 < (x3.length : Int)) then
 (Qam [I (IntKind.i64.wrap (gA (nth [] x3 (gA o7 0).toNat) 0 - gA (nth [] x3 (IntKind.i64.wrap (gA o7 0 - 1)).toNat) 0)), jA o7 1, jA (nth [] x3 (gA o7 0).toNat) 3, I 2]).bind fun o8 =>
 (Qam [I (IntKind.i64.wrap (gA (nth [] x3 (gA o7 0).toNat) 1 - gA (nth [] x3 (IntKind.i64.wrap (gA o7 0 - 1)).toNat) 1)), jA o7 1, jA (nth [] x3 (gA o7 0).toNat) 3, I 2]).bind fun o9 =>
 (Qam [I (IntKind.i64.wrap (gA (nth [] x3 (gA o7 0).toNat) 2 - gA (nth [] x3 (IntKind.i64.wrap (gA o7 0 - 1)).toNat) 2)), jA o7 1, jA (nth [] x3 (gA o7 0).toNat) 3, I 2]).bind fun o10 =>
 some [I (IntKind.i64.wrap (gA (nth [] x3 (IntKind.i64.wrap (gA o7 0 - 1)).toNat) 0 + gA o8 0)), I (IntKind.i64.wrap (gA (nth [] x3 (IntKind.i64.wrap (gA o7 0 - 1)).toNat) 1 + gA o9 0)), I (IntKind.i64.wrap (gA (nth [] x3 (IntKind.i64.wrap (gA o7 0 - 1)).toNat) 2 + gA o10 0))]
 else
 none
 else
 none
 else
 bif decide (0 <= gA o7 0) && decide (gA o7 0 < (x3.length : Int)) then
 (Qam [I (IntKind.i64.wrap (gA (nth [] x3 (gA o7 0).toNat) 0 - x0)), jA o7 1, jA (nth [] x3 (gA o7 0).toNat) 3, I 2]).bind fun o11 =>
 (Qam [I (IntKind.i64.wrap (gA (nth [] x3 (gA o7 0).toNat) 1 - x1)), jA o7 1, jA (nth [] x3 (gA o7 0).toNat) 3, I 2]).bind fun o12 =>
 (Qam [I (IntKind.i64.wrap (gA (nth [] x3 (gA o7 0).toNat) 2 - x2)), jA o7 1, jA (nth [] x3 (gA o7 0).toNat) 3, I 2]).bind fun o13 =>
 some [I (IntKind.i64.wrap (x0 + gA o11 0)), I (IntKind.i64.wrap (x1 + gA o12 0)), I (IntKind.i64.wrap (x2 + gA o13 0))]
 else
 none := by kernel_rfl
def m_path_At := mf_path_At Qb6 Ql0 
theorem sp_path_At : Qan Try.prog (C_path_At_0 Qb6 Ql0) := Qad rfl ⟨r_wide_MulDiv, r_path_Find, trivial⟩
theorem r_path_At : Qbv Try.prog (45, spOf sig_path_At osig_path_At m_path_At) := Qa7 (C := (C_path_At_0 Qb6 Ql0)) (L := 64) (by kernel_rfl) (FnOK.bare rfl rfl rfl) sp_path_At eqOk Qbo (by kernel_rfl) (by kernel_rfl)
def Ql5 : Sk := { tmps := [TS.v true [ci, ci, ci, CS.sl kSgm, CS.sl kPt]], boxes := [], rows := [] }
def Qkk : Sk := { tmps := [tf [ci]], boxes := [], rows := [] }
def C_cncref25_Length_0 : Cfg := { spec := Qbq [], eqOk := Qbw, ownOff := ownOff }
def sk_cncref25_Length_3 : Sk := { tmps := [td, td, td, tf [ci], td, td, td, tf [CS.sl kSgm], tf [ci], tf [ci]] ++ dd 9, boxes := [], rows := [] }
def ex_cncref25_Length_3 : List (Ex × Sk) := [(Ex.exit 0, { tmps := [td, td, td, tf [ci]] ++ dd 15, boxes := [], rows := [] })]
def Qgr : Lp := stepL Try.prog C_cncref25_Length_0 64 3 (Qhz Try.prog 35 3) sk_cncref25_Length_3 ex_cncref25_Length_3
def C_cncref25_Length_1 (N3 : Lp) : Cfg := C_cncref25_Length_0.loop 3 sk_cncref25_Length_3 ex_cncref25_Length_3 N3
def mf_cncref25_Length (N3 : Lp) : Fn := Qat Try.prog (C_cncref25_Length_1 N3) 64 35 Ql5 Qkk
theorem Qok (v0 : Int) (v1 : Rw) (v2 v3 : Int) : Qgr [I v0, .view kSgm v1, I v2, I v3] =
 bif decide (v3 < v2) then
 bif decide (0 <= v3) && decide (v3 < (v1.length : Int)) then
 some (0, [I (IntKind.i64.wrap (v0 + gA (nth [] v1 v3.toNat) 3)), .view kSgm v1, I v2, I (IntKind.i64.wrap (v3 + 1))])
 else
 none
 else
 some (1, [I v0]) := by kernel_rfl
theorem mf_cncref25_Length_eq (N3 : Lp) (x0 x1 x2 : Int) (x3 x4 : Rw) : mf_cncref25_Length N3 [I x0, I x1, I x2, .view kSgm x3, .view kPt x4] =
 (N3 [I 0, .view kSgm x3, I (x3.length : Int), I 0]).bind fun o1 =>
 bif o1.1.beq 1 then
 some [jA o1.2 0]
 else
 none := by kernel_rfl
def Qhg := Qb1 (Qgr )
def Qek := mf_cncref25_Length Qhg
theorem sp_cncref25_Length : Qan Try.prog (C_cncref25_Length_0 ) := Qad rfl trivial
theorem r_cncref25_Length : Qbv Try.prog (35, spOf Ql5 Qkk Qek) := Qa7 (C := (C_cncref25_Length_1 Qhg)) (L := 64) (by kernel_rfl) ((FnOK.bare rfl rfl rfl).loop sp_cncref25_Length eqOk Qbo (by kernel_rfl) (by kernel_rfl)) sp_cncref25_Length eqOk Qbo (by kernel_rfl) (by kernel_rfl)
def Qgw : Sk := { tmps := [tf [ci]], boxes := [], rows := [] }
def Qfx : Sk := { tmps := [tf [CS.bool]], boxes := [], rows := [] }
def C_path_motion_0 : Cfg := { spec := Qbq [], eqOk := Qbw, ownOff := ownOff }
def mf_path_motion : Fn := Qat Try.prog C_path_motion_0 64 137 Qgw Qfx
theorem mf_path_motion_eq (x0 : Int) : mf_path_motion [I x0] =
 bif decide (x0 >= 1) then
 some [B (decide (x0 <= 6))]
 else
 some [B false] := by kernel_rfl
def Qbm := mf_path_motion 
theorem sp_path_motion : Qan Try.prog (C_path_motion_0 ) := Qad rfl trivial
theorem r_path_motion : Qbv Try.prog (137, spOf Qgw Qfx Qbm) := Qa7 (C := C_path_motion_0) (L := 64) (by kernel_rfl) (FnOK.bare rfl rfl rfl) sp_path_motion eqOk Qbo (by kernel_rfl) (by kernel_rfl)
def Qni : Sk := { tmps := [TS.v true [ci, ci, ci, ci, ci, ci, ci, ci, ci, ci, ci, ci, ci, CS.bool, ci, CS.bool, ci, ci, ci, ci, ci, CS.bool]], boxes := [], rows := [] }
def Qlh : Sk := { tmps := [tf [CS.bool]], boxes := [], rows := [] }
def C_path_geared_0 : Cfg := { spec := Qbq [], eqOk := Qbw, ownOff := ownOff }
def mf_path_geared : Fn := Qat Try.prog C_path_geared_0 64 159 Qni Qlh
theorem mf_path_geared_eq (x0 x1 x2 x3 x4 x5 x6 x7 x8 x9 x10 x11 x12 : Int) (x13 : Bool) (x14 : Int) (x15 : Bool) (x16 x17 x18 x19 x20 : Int) (x21 : Bool) : mf_path_geared [I x0, I x1, I x2, I x3, I x4, I x5, I x6, I x7, I x8, I x9, I x10, I x11, I x12, B x13, I x14, B x15, I x16, I x17, I x18, I x19, I x20, B x21] =
 bif x0 == 5 then
 some [B true]
 else
 some [B (x0 == 6)] := by kernel_rfl
def Qd4 := mf_path_geared 
theorem sp_path_geared : Qan Try.prog (C_path_geared_0 ) := Qad rfl trivial
theorem r_path_geared : Qbv Try.prog (159, spOf Qni Qlh Qd4) := Qa7 (C := C_path_geared_0) (L := 64) (by kernel_rfl) (FnOK.bare rfl rfl rfl) sp_path_geared eqOk Qbo (by kernel_rfl) (by kernel_rfl)
def sig_path_exact : Sk := { tmps := [tf [CS.sl kItm], tf [ci]], boxes := [], rows := [] }
def osig_path_exact : Sk := { tmps := [tf [CS.bool]], boxes := [], rows := [] }
def C_path_exact_0 (Qac Qa1 : Fn) : Cfg := { spec := Qbq [(137, spOf Qgw Qfx Qac), (159, spOf Qni Qlh Qa1)], eqOk := Qbw, ownOff := ownOff }
def sk_path_exact_4 : Sk := { tmps := [td, td, td, td, td, td, td, td, td, td, td, td, td, td, td, td, td, td, td, td, td, td, td, tf [CS.sl kItm], tf [ci], tf [ci]] ++ dd 9, boxes := [], rows := [] }
def ex_path_exact_4 : List (Ex × Sk) := [(Ex.ret, { tmps := [td, td, td, td, tf [CS.bool]] ++ dd 30, boxes := [], rows := [] }), (Ex.exit 0, { tmps := [td] ++ dd 34, boxes := [], rows := [] })]
def Qfs (Qac Qa1 : Fn) : Lp := stepL Try.prog (C_path_exact_0 Qac Qa1) 64 4 (Qhz Try.prog 163 4) sk_path_exact_4 ex_path_exact_4
def C_path_exact_1 (Qac Qa1 : Fn) (N4 : Lp) : Cfg := (C_path_exact_0 Qac Qa1).loop 4 sk_path_exact_4 ex_path_exact_4 N4
def mf_path_exact (Qac Qa1 : Fn) (N4 : Lp) : Fn := Qat Try.prog (C_path_exact_1 Qac Qa1 N4) 64 163 sig_path_exact osig_path_exact
theorem st_path_exact_4_eq (Qac Qa1 : Fn) (v0 : Rw) (v1 v2 : Int) : Qfs Qac Qa1 [.view kItm v0, I v1, I v2] =
 bif decide (v2 < v1) then
 bif decide (0 <= v2) && decide (v2 < (v0.length : Int)) then
 (Qac [jA (nth [] v0 v2.toNat) 0]).bind fun o5 =>
 bif bA o5 0 then
 (Qa1 [jA (nth [] v0 v2.toNat) 0, jA (nth [] v0 v2.toNat) 1, jA (nth [] v0 v2.toNat) 2, jA (nth [] v0 v2.toNat) 3, jA (nth [] v0 v2.toNat) 4, jA (nth [] v0 v2.toNat) 5, jA (nth [] v0 v2.toNat) 6, jA (nth [] v0 v2.toNat) 7, jA (nth [] v0 v2.toNat) 8, jA (nth [] v0 v2.toNat) 9, jA (nth [] v0 v2.toNat) 10, jA (nth [] v0 v2.toNat) 11, jA (nth [] v0 v2.toNat) 12, B (bA (nth [] v0 v2.toNat) 13), jA (nth [] v0 v2.toNat) 14, B (bA (nth [] v0 v2.toNat) 15), jA (nth [] v0 v2.toNat) 16, jA (nth [] v0 v2.toNat) 17, jA (nth [] v0 v2.toNat) 18, jA (nth [] v0 v2.toNat) 19, jA (nth [] v0 v2.toNat) 20, B (bA (nth [] v0 v2.toNat) 21)]).bind fun o6 =>
 some (1, [B (bA o6 0)])
 else
 some (0, [.view kItm v0, I v1, I (IntKind.i64.wrap (v2 + 1))])
 else
 none
 else
 some (2, []) := by kernel_rfl
theorem mf_path_exact_eq (Qac Qa1 : Fn) (N4 : Lp) (x0 : Rw) (x1 : Int) : mf_path_exact Qac Qa1 N4 [.view kItm x0, I x1] =
 bif decide (0 <= x1) && decide (x1 < (x0.length : Int)) then
 bif gA (nth [] x0 x1.toNat) 18 == 0 then
 some [B true]
 else
 bif decide (0 <= x1) && decide (x1 < (x0.length : Int)) then
 (Qa1 [jA (nth [] x0 x1.toNat) 0, jA (nth [] x0 x1.toNat) 1, jA (nth [] x0 x1.toNat) 2, jA (nth [] x0 x1.toNat) 3, jA (nth [] x0 x1.toNat) 4, jA (nth [] x0 x1.toNat) 5, jA (nth [] x0 x1.toNat) 6, jA (nth [] x0 x1.toNat) 7, jA (nth [] x0 x1.toNat) 8, jA (nth [] x0 x1.toNat) 9, jA (nth [] x0 x1.toNat) 10, jA (nth [] x0 x1.toNat) 11, jA (nth [] x0 x1.toNat) 12, B (bA (nth [] x0 x1.toNat) 13), jA (nth [] x0 x1.toNat) 14, B (bA (nth [] x0 x1.toNat) 15), jA (nth [] x0 x1.toNat) 16, jA (nth [] x0 x1.toNat) 17, jA (nth [] x0 x1.toNat) 18, jA (nth [] x0 x1.toNat) 19, jA (nth [] x0 x1.toNat) 20, B (bA (nth [] x0 x1.toNat) 21)]).bind fun o7 =>
 bif bA o7 0 then
 some [B true]
 else
 bif decide (0 <= IntKind.i64.wrap (x1 + 1)) && decide (IntKind.i64.wrap (x1 + 1) <= (x0.length : Int)) then
 (N4 [.view kItm (List.drop (IntKind.i64.wrap (x1 + 1)).toNat x0), I (↑(List.drop (IntKind.i64.wrap (x1 + 1)).toNat x0).length : Int), I 0]).bind fun o8 =>
 bif o8.1.beq 1 then
 some [B (bA o8.2 0)]
 else
 bif o8.1.beq 2 then
 some [B false]
 else
 none
 else
 none
 else
 none
 else
 none := by kernel_rfl
def l_path_exact_4 := Qb1 (Qfs Qbm Qd4 )
def m_path_exact := mf_path_exact Qbm Qd4 l_path_exact_4
theorem sp_path_exact : Qan Try.prog (C_path_exact_0 Qbm Qd4) := Qad rfl ⟨r_path_motion, r_path_geared, trivial⟩
theorem r_path_exact : Qbv Try.prog (163, spOf sig_path_exact osig_path_exact m_path_exact) := Qa7 (C := (C_path_exact_1 Qbm Qd4 l_path_exact_4)) (L := 64) (by kernel_rfl) ((FnOK.bare rfl rfl rfl).loop sp_path_exact eqOk Qbo (by kernel_rfl) (by kernel_rfl)) sp_path_exact eqOk Qbo (by kernel_rfl) (by kernel_rfl)
def Qjp : Sk := { tmps := [tf [CS.ptr 20000 0], tf [CS.sl kItm], tf [ci]], boxes := [(20000, 125, [ci, ci, ci, CS.own 20000 7, CS.own 20001 3, CS.bool, ci, ci, ci])], rows := [(20000, 74, kSgm), (20001, 79, kPt)] }
def Qik : Sk := { tmps := [TS.tup []], boxes := [(20000, 125, [ci, ci, ci, CS.own 20000 7, CS.own 20001 3, CS.bool, ci, ci, ci])], rows := [(20000, 74, kSgm), (20001, 79, kPt)] }
def Qjf (Qmk Qac : Fn) : Cfg := { spec := Qbq [(163, spOf sig_path_exact osig_path_exact Qmk), (137, spOf Qgw Qfx Qac)], eqOk := Qbw, ownOff := ownOff }
def Qkj (Qmk Qac : Fn) : Fn := Qat Try.prog (Qjf Qmk Qac) 64 141 Qjp Qik
abbrev Qju (Qac : Fn) (x2 : Rw) (x3 : Int) (x1 : Rw) (x8 : Int) (x0 : Rw) (x4 x5 x6 : Int) (x7 : Bool) (x9 x10 : Int) : Option (List AC) :=
 (Qac [jA (nth [] x2 x3.toNat) 0]).bind fun o6 =>
 bif bA o6 0 then
 bif ((x1 ++ [[I x8, I 2, I x3]]).length * 24).ble 140737488355328 then
 some [.view kSgm x0, .view kPt (x1 ++ [[I x8, I 2, I x3]]), I x4, I x5, I x6, B x7, I x8, I x9, I x10]
 else
 none
 else
 bif gA (nth [] x2 x3.toNat) 0 == 10 then
 bif ((x1 ++ [[I x8, I 5, I x3]]).length * 24).ble 140737488355328 then
 some [.view kSgm x0, .view kPt (x1 ++ [[I x8, I 5, I x3]]), I x4, I x5, I x6, B x7, I x8, I x9, I x10]
 else
 none
 else
 bif gA (nth [] x2 x3.toNat) 0 == 13 then
 bif ((x1 ++ [[I x8, I 4, I x3]]).length * 24).ble 140737488355328 then
 some [.view kSgm x0, .view kPt (x1 ++ [[I x8, I 4, I x3]]), I x4, I x5, I x6, B x7, I x8, I x9, I x10]
 else
 none
 else
 bif ((x1 ++ [[I x8, I 3, I x3]]).length * 24).ble 140737488355328 then
 some [.view kSgm x0, .view kPt (x1 ++ [[I x8, I 3, I x3]]), I x4, I x5, I x6, B x7, I x8, I x9, I x10]
 else
 none
attribute [go_sem] Qju
theorem mf_path_builder_mark_eq (Qmk Qac : Fn) (x0 x1 x2 : Rw) (x3 x4 x5 x6 : Int) (x7 : Bool) (x8 x9 x10 : Int) : Qkj Qmk Qac [.view kSgm x0, .view kPt x1, .view kItm x2, I x3, I x4, I x5, I x6, B x7, I x8, I x9, I x10] =
 bif decide (0 <= x3) && decide (x3 < (x2.length : Int)) then
 bif gA (nth [] x2 x3.toNat) 0 == 4 then
 bif ((x1 ++ [[I x8, I 6, I x3]]).length * 24).ble 140737488355328 then
 some [.view kSgm x0, .view kPt (x1 ++ [[I x8, I 6, I x3]]), I x4, I x5, I x6, B x7, I x8, I x9, I x10]
 else
 none
 else
 (Qac [jA (nth [] x2 x3.toNat) 0]).bind fun o4 =>
 bif bA o4 0 then
 (Qmk [.view kItm x2, I x3]).bind fun o5 =>
 bif bA o5 0 then
 bif ((x1 ++ [[I x8, I 1, I x3]]).length * 24).ble 140737488355328 then
 some [.view kSgm x0, .view kPt (x1 ++ [[I x8, I 1, I x3]]), I x4, I x5, I x6, B x7, I x8, I x9, I x10]
 else
 none
 else
 Qju Qac x2 x3 x1 x8 x0 x4 x5 x6 x7 x9 x10
 else
 Qju Qac x2 x3 x1 x8 x0 x4 x5 x6 x7 x9 x10
 else
 none := by kernel_rfl
def Qcr := Qkj m_path_exact Qbm 
theorem sp_path_builder_mark : Qan Try.prog (Qjf m_path_exact Qbm) := Qad rfl ⟨r_path_exact, r_path_motion, trivial⟩
theorem r_path_builder_mark : Qbv Try.prog (141, spOf Qjp Qik Qcr) := Qa7 (C := (Qjf m_path_exact Qbm)) (L := 64) (by kernel_rfl) (FnOK.bare rfl rfl rfl) sp_path_builder_mark eqOk Qbo (by kernel_rfl) (by kernel_rfl)
def Qje : Sk := { tmps := [TS.v true [ci, ci, ci, ci, ci, ci, ci, ci, ci, ci, ci, ci, ci, CS.bool, ci, CS.bool, ci, ci, ci, ci, ci, CS.bool]], boxes := [], rows := [] }
def Qh2 : Sk := { tmps := [TS.v true [ci, ci, ci]], boxes := [], rows := [] }
def C_path_middle_0 : Cfg := { spec := Qbq [], eqOk := Qbw, ownOff := ownOff }
def mf_path_middle : Fn := Qat Try.prog C_path_middle_0 64 162 Qje Qh2
theorem mf_path_middle_eq (x0 x1 x2 x3 x4 x5 x6 x7 x8 x9 x10 x11 x12 : Int) (x13 : Bool) (x14 : Int) (x15 : Bool) (x16 x17 x18 x19 x20 : Int) (x21 : Bool) : mf_path_middle [I x0, I x1, I x2, I x3, I x4, I x5, I x6, I x7, I x8, I x9, I x10, I x11, I x12, B x13, I x14, B x15, I x16, I x17, I x18, I x19, I x20, B x21] =
 some [I (IntKind.i64.wrap (IntKind.i64.wrap (x2 + x5) * 8)), I (IntKind.i64.wrap (IntKind.i64.wrap (x3 + x6) * 8)), I (IntKind.i64.wrap (IntKind.i64.wrap (x4 + x7) * 8))] := by kernel_rfl
def Qde := mf_path_middle 
theorem sp_path_middle : Qan Try.prog (C_path_middle_0 ) := Qad rfl trivial
theorem r_path_middle : Qbv Try.prog (162, spOf Qje Qh2 Qde) := Qa7 (C := C_path_middle_0) (L := 64) (by kernel_rfl) (FnOK.bare rfl rfl rfl) sp_path_middle eqOk Qbo (by kernel_rfl) (by kernel_rfl)
def Qji : Sk := { tmps := [TS.v true [ci, ci, ci, ci, ci, ci, ci, ci, ci, ci, ci, ci, ci, CS.bool, ci, CS.bool, ci, ci, ci, ci, ci, CS.bool]], boxes := [], rows := [] }
def Qh4 : Sk := { tmps := [tf [CS.bool]], boxes := [], rows := [] }
def C_path_smooth_0 : Cfg := { spec := Qbq [], eqOk := Qbw, ownOff := ownOff }
def mf_path_smooth : Fn := Qat Try.prog C_path_smooth_0 64 102 Qji Qh4
theorem mf_path_smooth_eq (x0 x1 x2 x3 x4 x5 x6 x7 x8 x9 x10 x11 x12 : Int) (x13 : Bool) (x14 : Int) (x15 : Bool) (x16 x17 x18 x19 x20 : Int) (x21 : Bool) : mf_path_smooth [I x0, I x1, I x2, I x3, I x4, I x5, I x6, I x7, I x8, I x9, I x10, I x11, I x12, B x13, I x14, B x15, I x16, I x17, I x18, I x19, I x20, B x21] =
 bif x0 == 2 then
 some [B !(x2 == x5 && (x3 == x6 && (x4 == x7 && true)))]
 else
 some [B false] := by kernel_rfl
def Qdf := mf_path_smooth 
theorem sp_path_smooth : Qan Try.prog (C_path_smooth_0 ) := Qad rfl trivial
theorem r_path_smooth : Qbv Try.prog (102, spOf Qji Qh4 Qdf) := Qa7 (C := C_path_smooth_0) (L := 64) (by kernel_rfl) (FnOK.bare rfl rfl rfl) sp_path_smooth eqOk Qbo (by kernel_rfl) (by kernel_rfl)
def Qlk : Sk := { tmps := [TS.v true [ci, ci, ci], TS.v true [ci, ci, ci]], boxes := [], rows := [] }
def Qj5 : Sk := { tmps := [tf [ci]], boxes := [], rows := [] }
def C_curve_Length_0 (Qd5 : Fn) : Cfg := { spec := Qbq [(134, spOf sig_wide_Sqrt osig_wide_Sqrt Qd5)], eqOk := Qbw, ownOff := ownOff, unroll := [3] }
def mf_curve_Length (Qd5 : Fn) : Fn := Qat Try.prog (C_curve_Length_0 Qd5) 64 177 Qlk Qj5
theorem mf_curve_Length_eq (Qd5 : Fn) (x0 x1 x2 x3 x4 x5 : Int) : mf_curve_Length Qd5 [I x0, I x1, I x2, I x3, I x4, I x5] =
 (Qd5 [I (IntKind.i64.wrap (IntKind.i64.wrap (IntKind.i64.wrap (0 + IntKind.i64.wrap (IntKind.i64.wrap (x0 - x3) * IntKind.i64.wrap (x0 - x3))) + IntKind.i64.wrap (IntKind.i64.wrap (x1 - x4) * IntKind.i64.wrap (x1 - x4))) + IntKind.i64.wrap (IntKind.i64.wrap (x2 - x5) * IntKind.i64.wrap (x2 - x5)))), I 1]).bind fun o1 =>
 some [jA o1 0] := by kernel_rfl
def Qeq := mf_curve_Length Qhb 
theorem sp_curve_Length : Qan Try.prog (C_curve_Length_0 Qhb) := Qad rfl ⟨r_wide_Sqrt, trivial⟩
theorem r_curve_Length : Qbv Try.prog (177, spOf Qlk Qj5 Qeq) := Qa7 (C := (C_curve_Length_0 Qhb)) (L := 64) (by kernel_rfl) (FnOK.bare rfl rfl rfl) sp_curve_Length eqOk Qbo (by kernel_rfl) (by kernel_rfl)
def Qkn : Sk := { tmps := [tf [CS.ptr 20000 0], TS.v true [ci, ci, ci], TS.v true [ci, ci, ci, ci, ci, ci, ci]], boxes := [(20000, 125, [ci, ci, ci, CS.own 20000 7, CS.own 20001 3, CS.bool, ci, ci, ci])], rows := [(20000, 74, kSgm), (20001, 79, kPt)] }
def Qjv : Sk := { tmps := [TS.tup []], boxes := [(20000, 125, [ci, ci, ci, CS.own 20000 7, CS.own 20001 3, CS.bool, ci, ci, ci])], rows := [(20000, 74, kSgm), (20001, 79, kPt)] }
def Qkh (Qa3 : Fn) : Cfg := { spec := Qbq [(177, spOf Qlk Qj5 Qa3)], eqOk := Qbw, ownOff := ownOff }
def Qhp (Qa3 : Fn) : Fn := Qat Try.prog (Qkh Qa3) 64 161 Qkn Qjv
abbrev Qkr (x15 : Bool) (x0 x1 : Rw) (x2 x3 x4 x16 x17 x18 x12 x13 x14 : Int) (Qa3 : Fn) (x9 x10 x11 : Int) (h1_0 : Bool) (h1_1 h1_2 h1_3 : AC) : Option (List AC) :=
 bif !x15 then
 some [.view kSgm x0, .view kPt x1, I x2, I x3, I x4, B true, I x16, I x17, I x18]
 else
 bif h1_0 then
 some [.view kSgm x0, .view kPt x1, I x12, I x13, I x14, B x15, I x16, I x17, I x18]
 else
 (Qa3 [h1_1, h1_2, h1_3, I x2, I x3, I x4]).bind fun o2 =>
 bif ((x0 ++ [[I x2, I x3, I x4, jA o2 0, I x9, I x10, I x11]]).length * 56).ble 140737488355328 then
 some [.view kSgm (x0 ++ [[I x2, I x3, I x4, jA o2 0, I x9, I x10, I x11]]), .view kPt x1, I x12, I x13, I x14, B x15, I (IntKind.i64.wrap (x16 + gA o2 0)), I x17, I x18]
 else
 none
attribute [go_sem] Qkr
theorem mf_path_builder_add_eq (Qa3 : Fn) (x0 x1 : Rw) (x2 x3 x4 x5 x6 x7 x8 x9 x10 x11 x12 x13 x14 : Int) (x15 : Bool) (x16 x17 x18 : Int) : Qhp Qa3 [.view kSgm x0, .view kPt x1, I x2, I x3, I x4, I x5, I x6, I x7, I x8, I x9, I x10, I x11, I x12, I x13, I x14, B x15, I x16, I x17, I x18] =
 bif decide ((x0.length : Int) > 0) then
 bif decide (0 <= IntKind.i64.wrap ((x0.length : Int) - 1)) && decide (IntKind.i64.wrap ((x0.length : Int) - 1) < (x0.length : Int)) then
 Qkr x15 x0 x1 x2 x3 x4 x16 x17 x18 x12 x13 x14 Qa3 x9 x10 x11 (x2 == gA (nth [] x0 (IntKind.i64.wrap ((x0.length : Int) - 1)).toNat) 0 && (x3 == gA (nth [] x0 (IntKind.i64.wrap ((x0.length : Int) - 1)).toNat) 1 && (x4 == gA (nth [] x0 (IntKind.i64.wrap ((x0.length : Int) - 1)).toNat) 2 && true))) (jA (nth [] x0 (IntKind.i64.wrap ((x0.length : Int) - 1)).toNat) 0) (jA (nth [] x0 (IntKind.i64.wrap ((x0.length : Int) - 1)).toNat) 1) (jA (nth [] x0 (IntKind.i64.wrap ((x0.length : Int) - 1)).toNat) 2)
 else
 none
 else
 Qkr x15 x0 x1 x2 x3 x4 x16 x17 x18 x12 x13 x14 Qa3 x9 x10 x11 (x2 == x12 && (x3 == x13 && (x4 == x14 && true))) (I x12) (I x13) (I x14) := by kernel_rfl
def Qer := Qhp Qeq 
theorem sp_path_builder_add : Qan Try.prog (Qkh Qeq) := Qad rfl ⟨r_curve_Length, trivial⟩
theorem r_path_builder_add : Qbv Try.prog (161, spOf Qkn Qjv Qer) := Qa7 (C := (Qkh Qeq)) (L := 64) (by kernel_rfl) (FnOK.bare rfl rfl rfl) sp_path_builder_add eqOk Qbo (by kernel_rfl) (by kernel_rfl)
def Qoq : Sk := { tmps := [tf [CS.sl kItm], tf [ci]], boxes := [], rows := [] }
def Qk1 : Sk := { tmps := [tf [ci]], boxes := [], rows := [] }
def C_path_next_0 : Cfg := { spec := Qbq [], eqOk := Qbw, ownOff := ownOff }
def sk_path_next_2 : Sk := { tmps := [tf [CS.sl kItm], tf [ci]] ++ dd 20, boxes := [], rows := [] }
def ex_path_next_2 : List (Ex × Sk) := [(Ex.exit 0, { tmps := [td, tf [ci]] ++ dd 20, boxes := [], rows := [] })]
def Qk3 : Lp := stepL Try.prog C_path_next_0 64 2 (Qhz Try.prog 139 2) sk_path_next_2 ex_path_next_2
def C_path_next_1 (N2 : Lp) : Cfg := C_path_next_0.loop 2 sk_path_next_2 ex_path_next_2 N2
def mf_path_next (N2 : Lp) : Fn := Qat Try.prog (C_path_next_1 N2) 64 139 Qoq Qk1
theorem st_path_next_2_eq (v0 : Rw) (v1 : Int) : Qk3 [.view kItm v0, I v1] =
 bif decide (v1 < (v0.length : Int)) then
 bif decide (0 <= v1) && decide (v1 < (v0.length : Int)) then
 bif gA (nth [] v0 v1.toNat) 0 == 10 then
 some (0, [.view kItm v0, I (IntKind.i64.wrap (v1 + 1))])
 else
 some (1, [I v1])
 else
 none
 else
 some (1, [I v1]) := by kernel_rfl
theorem mf_path_next_eq (N2 : Lp) (x0 : Rw) (x1 : Int) : mf_path_next N2 [.view kItm x0, I x1] =
 (N2 [.view kItm x0, I (IntKind.i64.wrap (x1 + 1))]).bind fun o1 =>
 bif o1.1.beq 1 then
 some [jA o1.2 0]
 else
 none := by kernel_rfl
def l_path_next_2 := Qb1 (Qk3 )
def Qdz := mf_path_next l_path_next_2
theorem sp_path_next : Qan Try.prog (C_path_next_0 ) := Qad rfl trivial
theorem r_path_next : Qbv Try.prog (139, spOf Qoq Qk1 Qdz) := Qa7 (C := (C_path_next_1 l_path_next_2)) (L := 64) (by kernel_rfl) ((FnOK.bare rfl rfl rfl).loop sp_path_next eqOk Qbo (by kernel_rfl) (by kernel_rfl)) sp_path_next eqOk Qbo (by kernel_rfl) (by kernel_rfl)
def sig_path_soft : Sk := { tmps := [tf [CS.sl kItm], tf [ci]], boxes := [], rows := [] }
def osig_path_soft : Sk := { tmps := [tf [CS.bool]], boxes := [], rows := [] }
def C_path_soft_0 (Qaw Qap : Fn) : Cfg := { spec := Qbq [(102, spOf Qji Qh4 Qaw), (139, spOf Qoq Qk1 Qap)], eqOk := Qbw, ownOff := ownOff }
def mf_path_soft (Qaw Qap : Fn) : Fn := Qat Try.prog (C_path_soft_0 Qaw Qap) 64 138 sig_path_soft osig_path_soft
theorem mf_path_soft_eq (Qaw Qap : Fn) (x0 : Rw) (x1 : Int) : mf_path_soft Qaw Qap [.view kItm x0, I x1] =
 (Qap [.view kItm x0, I x1]).bind fun o3 =>
 bif decide (0 <= x1) && decide (x1 < (x0.length : Int)) then
 (Qaw [jA (nth [] x0 x1.toNat) 0, jA (nth [] x0 x1.toNat) 1, jA (nth [] x0 x1.toNat) 2, jA (nth [] x0 x1.toNat) 3, jA (nth [] x0 x1.toNat) 4, jA (nth [] x0 x1.toNat) 5, jA (nth [] x0 x1.toNat) 6, jA (nth [] x0 x1.toNat) 7, jA (nth [] x0 x1.toNat) 8, jA (nth [] x0 x1.toNat) 9, jA (nth [] x0 x1.toNat) 10, jA (nth [] x0 x1.toNat) 11, jA (nth [] x0 x1.toNat) 12, B (bA (nth [] x0 x1.toNat) 13), jA (nth [] x0 x1.toNat) 14, B (bA (nth [] x0 x1.toNat) 15), jA (nth [] x0 x1.toNat) 16, jA (nth [] x0 x1.toNat) 17, jA (nth [] x0 x1.toNat) 18, jA (nth [] x0 x1.toNat) 19, jA (nth [] x0 x1.toNat) 20, B (bA (nth [] x0 x1.toNat) 21)]).bind fun o4 =>
 bif bA o4 0 then
 bif decide (0 <= x1) && decide (x1 < (x0.length : Int)) then
 bif gA (nth [] x0 x1.toNat) 18 != 0 then
 bif decide (gA o3 0 < (x0.length : Int)) then
 bif decide (0 <= gA o3 0) && decide (gA o3 0 < (x0.length : Int)) then
 (Qaw [jA (nth [] x0 (gA o3 0).toNat) 0, jA (nth [] x0 (gA o3 0).toNat) 1, jA (nth [] x0 (gA o3 0).toNat) 2, jA (nth [] x0 (gA o3 0).toNat) 3, jA (nth [] x0 (gA o3 0).toNat) 4, jA (nth [] x0 (gA o3 0).toNat) 5, jA (nth [] x0 (gA o3 0).toNat) 6, jA (nth [] x0 (gA o3 0).toNat) 7, jA (nth [] x0 (gA o3 0).toNat) 8, jA (nth [] x0 (gA o3 0).toNat) 9, jA (nth [] x0 (gA o3 0).toNat) 10, jA (nth [] x0 (gA o3 0).toNat) 11, jA (nth [] x0 (gA o3 0).toNat) 12, B (bA (nth [] x0 (gA o3 0).toNat) 13), jA (nth [] x0 (gA o3 0).toNat) 14, B (bA (nth [] x0 (gA o3 0).toNat) 15), jA (nth [] x0 (gA o3 0).toNat) 16, jA (nth [] x0 (gA o3 0).toNat) 17, jA (nth [] x0 (gA o3 0).toNat) 18, jA (nth [] x0 (gA o3 0).toNat) 19, jA (nth [] x0 (gA o3 0).toNat) 20, B (bA (nth [] x0 (gA o3 0).toNat) 21)]).bind fun o5 =>
 some [B (bA o5 0)]
 else
 none
 else
 some [B false]
 else
 some [B false]
 else
 none
 else
 some [B false]
 else
 none := by kernel_rfl
def Qet := mf_path_soft Qdf Qdz 
theorem sp_path_soft : Qan Try.prog (C_path_soft_0 Qdf Qdz) := Qad rfl ⟨r_path_smooth, r_path_next, trivial⟩
theorem r_path_soft : Qbv Try.prog (138, spOf sig_path_soft osig_path_soft Qet) := Qa7 (C := (C_path_soft_0 Qdf Qdz)) (L := 64) (by kernel_rfl) (FnOK.bare rfl rfl rfl) sp_path_soft eqOk Qbo (by kernel_rfl) (by kernel_rfl)
def sig_blend_bend : Sk := { tmps := [TS.v true [ci, ci, ci], TS.v true [ci, ci, ci], TS.v true [ci, ci, ci]], boxes := [], rows := [] }
def Qmq : Sk := { tmps := [tf [ci]], boxes := [], rows := [] }
def C_blend_bend_0 : Cfg := { spec := Qbq [], eqOk := Qbw, ownOff := ownOff, unroll := [3] }
def mf_blend_bend : Fn := Qat Try.prog C_blend_bend_0 64 194 sig_blend_bend Qmq
theorem mf_blend_bend_eq (x0 x1 x2 x3 x4 x5 x6 x7 x8 : Int) : mf_blend_bend [I x0, I x1, I x2, I x3, I x4, I x5, I x6, I x7, I x8] =
 some [I (IntKind.i64.wrap (IntKind.i64.wrap (IntKind.i64.wrap (0 + IntKind.i64.wrap (IntKind.i64.wrap (IntKind.i64.wrap (x0 + x6) - IntKind.i64.wrap (2 * x3)) * IntKind.i64.wrap (IntKind.i64.wrap (x0 + x6) - IntKind.i64.wrap (2 * x3)))) + IntKind.i64.wrap (IntKind.i64.wrap (IntKind.i64.wrap (x1 + x7) - IntKind.i64.wrap (2 * x4)) * IntKind.i64.wrap (IntKind.i64.wrap (x1 + x7) - IntKind.i64.wrap (2 * x4)))) + IntKind.i64.wrap (IntKind.i64.wrap (IntKind.i64.wrap (x2 + x8) - IntKind.i64.wrap (2 * x5)) * IntKind.i64.wrap (IntKind.i64.wrap (x2 + x8) - IntKind.i64.wrap (2 * x5)))))] := by kernel_rfl
def Qec := mf_blend_bend 
theorem sp_blend_bend : Qan Try.prog (C_blend_bend_0 ) := Qad rfl trivial
theorem r_blend_bend : Qbv Try.prog (194, spOf sig_blend_bend Qmq Qec) := Qa7 (C := C_blend_bend_0) (L := 64) (by kernel_rfl) (FnOK.bare rfl rfl rfl) sp_blend_bend eqOk Qbo (by kernel_rfl) (by kernel_rfl)
end Go.Bm
