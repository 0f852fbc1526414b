/- functions of the program and of the references, as models -/
import Derived.Test.YtdllaekpkcanbaaSeShelf
import Derived.Test.YtdllaekpkcanbaaSeExt
import Derived.Test.YtdllaekpkcanbaaSePre
set_option linter.unusedSimpArgs false
set_option linter.unusedVariables false
set_option maxRecDepth 100000
namespace Go.Bm
open Go.Proofs
def sig_cncref01_cmp : Sk := { tmps := [TS.v false [CS.sl [Kd.int .u64]], TS.v false [CS.sl [Kd.int .u64]]], boxes := [], rows := [] }
def osig_cncref01_cmp : Sk := { tmps := [TS.v false [CS.int .i64]], boxes := [], rows := [] }
noncomputable def C_cncref01_cmp_0  : Cfg := { spec := lookS [], eqOk := eqAll, ownOff := ownOff }
def sk_cncref01_cmp_6 : Sk := { tmps := [TS.v false [CS.sl [Kd.int .u64]], TS.v false [CS.sl [Kd.int .u64]], TS.dead, TS.dead, TS.dead, TS.v false [CS.int .i64]] ++ dd 35, boxes := [], rows := [] }
def ex_cncref01_cmp_6 : List (Ex × Sk) := [(Ex.ret, { tmps := [TS.dead, TS.dead, TS.dead, TS.dead, TS.v false [CS.int .i64]] ++ dd 36, boxes := [], rows := [] }), (Ex.exit 0, { tmps := [TS.dead] ++ dd 40, boxes := [], rows := [] })]
noncomputable def st_cncref01_cmp_6   : List AC → Option (Nat × List AC) := stepL Try.prog C_cncref01_cmp_0 64 6 (bodyOf Try.prog 149 6) sk_cncref01_cmp_6 ex_cncref01_cmp_6
noncomputable def C_cncref01_cmp_1   (N6 : List AC → Option (Nat × List AC)) : Cfg := C_cncref01_cmp_0.loop 6 sk_cncref01_cmp_6 ex_cncref01_cmp_6 N6
noncomputable def mf_cncref01_cmp   (N6 : List AC → Option (Nat × List AC)) : List AC → Option (List AC) := modelF Try.prog (C_cncref01_cmp_1  N6) 64 149 sig_cncref01_cmp osig_cncref01_cmp
theorem st_cncref01_cmp_6_eq   (v0 : List (List AC)) (v1 : List (List AC)) (v2 : Int) : st_cncref01_cmp_6   [AC.view [Kd.int .u64] v0, AC.view [Kd.int .u64] v1, AC.int .i64 v2] =
  bif decide (v2 ≥ 0) then
   bif decide (0 ≤ v2) && decide (v2 < (↑v0.length : Int)) then
    bif decide (0 ≤ v2) && decide (v2 < (↑v1.length : Int)) then
     bif decide (intOf (nth AC.dead (nth [] v0 v2.toNat) 0) < intOf (nth AC.dead (nth [] v1 v2.toNat) 0)) then
      some (1, [AC.int IntKind.i64 (-1)])
     else
      bif decide (0 ≤ v2) && decide (v2 < (↑v0.length : Int)) then
       bif decide (0 ≤ v2) && decide (v2 < (↑v1.length : Int)) then
        bif decide (intOf (nth AC.dead (nth [] v0 v2.toNat) 0) > intOf (nth AC.dead (nth [] v1 v2.toNat) 0)) then
         some (1, [AC.int IntKind.i64 1])
        else
         some (0, [AC.view [Kd.int IntKind.u64] v0, AC.view [Kd.int IntKind.u64] v1, AC.int IntKind.i64 (IntKind.i64.wrap (v2 - 1))])
       else
        none
      else
       none
    else
     none
   else
    none
  else
   some (2, []) := by kernel_rfl
theorem mf_cncref01_cmp_eq   (N6 : List AC → Option (Nat × List AC)) (x0 : List (List AC)) (x1 : List (List AC)) : mf_cncref01_cmp   N6 [AC.view [Kd.int .u64] x0, AC.view [Kd.int .u64] x1] =
  bif (↑x0.length : Int) != (↑x1.length : Int) then
   bif decide ((↑x0.length : Int) < (↑x1.length : Int)) then
    some [AC.int IntKind.i64 (-1)]
   else
    some [AC.int IntKind.i64 1]
  else
   (N6 [AC.view [Kd.int IntKind.u64] x0, AC.view [Kd.int IntKind.u64] x1, AC.int IntKind.i64 (IntKind.i64.wrap ((↑x0.length : Int) - 1))]).bind fun o1 =>
   bif o1.fst.beq 1 then
    some [AC.int IntKind.i64 (intOf (nth AC.dead o1.snd 0))]
   else
    bif o1.fst.beq 2 then
     some [AC.int IntKind.i64 0]
    else
     none := by kernel_rfl
noncomputable def l_cncref01_cmp_6 := loopC (st_cncref01_cmp_6  )
noncomputable def m_cncref01_cmp := mf_cncref01_cmp   l_cncref01_cmp_6
theorem sp_cncref01_cmp : SpecOK Try.prog (C_cncref01_cmp_0 ) := specOK_of rfl trivial
theorem r_cncref01_cmp : RowOK Try.prog (149, spOf sig_cncref01_cmp osig_cncref01_cmp m_cncref01_cmp) := row_of (C := (C_cncref01_cmp_1  l_cncref01_cmp_6)) (L := 64) (sig := sig_cncref01_cmp) (osig := osig_cncref01_cmp) (by kernel_rfl) ((FnOK.bare rfl rfl rfl).loop sp_cncref01_cmp eqOk mixOk (by kernel_rfl) (by kernel_rfl)) sp_cncref01_cmp eqOk mixOk (by kernel_rfl) (by kernel_rfl)
def sig_cncref01_cut : Sk := { tmps := [TS.v false [CS.sl [Kd.int .u64]]], boxes := [], rows := [] }
def osig_cncref01_cut : Sk := { tmps := [TS.v false [CS.sl [Kd.int .u64]]], boxes := [], rows := [] }
noncomputable def C_cncref01_cut_0  : Cfg := { spec := lookS [], eqOk := eqAll, ownOff := ownOff }
def sk_cncref01_cut_1 : Sk := { tmps := [TS.v false [CS.sl [Kd.int .u64]]] ++ dd 20, boxes := [], rows := [] }
def ex_cncref01_cut_1 : List (Ex × Sk) := [(Ex.exit 0, { tmps := [TS.v false [CS.sl [Kd.int .u64]]] ++ dd 20, boxes := [], rows := [] })]
noncomputable def st_cncref01_cut_1   : List AC → Option (Nat × List AC) := stepL Try.prog C_cncref01_cut_0 64 1 (bodyOf Try.prog 179 1) sk_cncref01_cut_1 ex_cncref01_cut_1
noncomputable def C_cncref01_cut_1   (N1 : List AC → Option (Nat × List AC)) : Cfg := C_cncref01_cut_0.loop 1 sk_cncref01_cut_1 ex_cncref01_cut_1 N1
noncomputable def mf_cncref01_cut   (N1 : List AC → Option (Nat × List AC)) : List AC → Option (List AC) := modelF Try.prog (C_cncref01_cut_1  N1) 64 179 sig_cncref01_cut osig_cncref01_cut
theorem st_cncref01_cut_1_eq   (v0 : List (List AC)) : st_cncref01_cut_1   [AC.view [Kd.int .u64] v0] =
  bif decide ((↑v0.length : Int) > 0) then
   bif decide (0 ≤ IntKind.i64.wrap ((↑v0.length : Int) - 1)) && decide (IntKind.i64.wrap ((↑v0.length : Int) - 1) < (↑v0.length : Int)) then
    bif intOf (nth AC.dead (nth [] v0 (IntKind.i64.wrap ((↑v0.length : Int) - 1)).toNat) 0) == 0 then
     bif decide (0 ≤ IntKind.i64.wrap ((↑v0.length : Int) - 1)) && decide (IntKind.i64.wrap ((↑v0.length : Int) - 1) ≤ (↑v0.length : Int)) then
      some (0, [AC.view [Kd.int IntKind.u64] (List.take (IntKind.i64.wrap ((↑v0.length : Int) - 1)).toNat v0)])
     else
      none
    else
     some (1, [AC.view [Kd.int IntKind.u64] v0])
   else
    none
  else
   some (1, [AC.view [Kd.int IntKind.u64] v0]) := by kernel_rfl
theorem mf_cncref01_cut_eq   (N1 : List AC → Option (Nat × List AC)) (x0 : List (List AC)) : mf_cncref01_cut   N1 [AC.view [Kd.int .u64] x0] =
  (N1 [AC.view [Kd.int IntKind.u64] x0]).bind fun o1 =>
  bif o1.fst.beq 1 then
   some [AC.view [Kd.int IntKind.u64] (rowsOf (nth AC.dead o1.snd 0))]
  else
   none := by kernel_rfl
noncomputable def l_cncref01_cut_1 := loopC (st_cncref01_cut_1  )
noncomputable def m_cncref01_cut := mf_cncref01_cut   l_cncref01_cut_1
theorem sp_cncref01_cut : SpecOK Try.prog (C_cncref01_cut_0 ) := specOK_of rfl trivial
theorem r_cncref01_cut : RowOK Try.prog (179, spOf sig_cncref01_cut osig_cncref01_cut m_cncref01_cut) := row_of (C := (C_cncref01_cut_1  l_cncref01_cut_1)) (L := 64) (sig := sig_cncref01_cut) (osig := osig_cncref01_cut) (by kernel_rfl) ((FnOK.bare rfl rfl rfl).loop sp_cncref01_cut eqOk mixOk (by kernel_rfl) (by kernel_rfl)) sp_cncref01_cut eqOk mixOk (by kernel_rfl) (by kernel_rfl)
def sig_cncref01_mul : Sk := { tmps := [TS.v false [CS.sl [Kd.int .u64]], TS.v false [CS.sl [Kd.int .u64]]], boxes := [], rows := [] }
def osig_cncref01_mul : Sk := { tmps := [TS.v false [CS.sl [Kd.int .u64]]], boxes := [], rows := [] }
noncomputable def C_cncref01_mul_0 (M_cncref01_cut : List AC → Option (List AC)) : Cfg := { spec := lookS [(179, spOf sig_cncref01_cut osig_cncref01_cut M_cncref01_cut)], eqOk := eqAll, ownOff := ownOff }
def sk_cncref01_mul_7 : Sk := { tmps := [TS.v false [CS.sl [Kd.int .u64]], TS.v false [CS.sl [Kd.int .u64]], TS.dead, TS.dead, TS.dead, TS.v false [CS.own 15 1], TS.v false [CS.int .i64], TS.v false [CS.int .u64], TS.v false [CS.int .i64]] ++ dd 63, boxes := [], rows := [(15, 132, [Kd.int .u64])] }
def ex_cncref01_mul_7 : List (Ex × Sk) := [(Ex.exit 2, { tmps := [TS.v false [CS.sl [Kd.int .u64]], TS.v false [CS.sl [Kd.int .u64]], TS.dead, TS.dead, TS.dead, TS.v false [CS.own 15 1], TS.v false [CS.int .i64], TS.v false [CS.int .u64]] ++ dd 64, boxes := [], rows := [(15, 132, [Kd.int .u64])] })]
noncomputable def st_cncref01_mul_7 (M_cncref01_cut : List AC → Option (List AC))  : List AC → Option (Nat × List AC) := stepL Try.prog (C_cncref01_mul_0 M_cncref01_cut) 64 7 (bodyOf Try.prog 165 7) sk_cncref01_mul_7 ex_cncref01_mul_7
noncomputable def C_cncref01_mul_1 (M_cncref01_cut : List AC → Option (List AC))  (N7 : List AC → Option (Nat × List AC)) : Cfg := (C_cncref01_mul_0 M_cncref01_cut).loop 7 sk_cncref01_mul_7 ex_cncref01_mul_7 N7
def sk_cncref01_mul_3 : Sk := { tmps := [TS.v false [CS.sl [Kd.int .u64]], TS.v false [CS.sl [Kd.int .u64]], TS.dead, TS.dead, TS.dead, TS.v false [CS.own 15 1], TS.v false [CS.int .i64]] ++ dd 65, boxes := [], rows := [(15, 132, [Kd.int .u64])] }
def ex_cncref01_mul_3 : List (Ex × Sk) := [(Ex.exit 0, { tmps := [TS.dead, TS.dead, TS.dead, TS.dead, TS.dead, TS.v false [CS.own 15 1]] ++ dd 66, boxes := [], rows := [(15, 132, [Kd.int .u64])] })]
noncomputable def st_cncref01_mul_3 (M_cncref01_cut : List AC → Option (List AC))  (N7 : List AC → Option (Nat × List AC)) : List AC → Option (Nat × List AC) := stepL Try.prog (C_cncref01_mul_1 M_cncref01_cut N7) 64 3 (bodyOf Try.prog 165 3) sk_cncref01_mul_3 ex_cncref01_mul_3
noncomputable def C_cncref01_mul_2 (M_cncref01_cut : List AC → Option (List AC))  (N7 : List AC → Option (Nat × List AC)) (N3 : List AC → Option (Nat × List AC)) : Cfg := (C_cncref01_mul_1 M_cncref01_cut N7).loop 3 sk_cncref01_mul_3 ex_cncref01_mul_3 N3
noncomputable def mf_cncref01_mul (M_cncref01_cut : List AC → Option (List AC))  (N7 : List AC → Option (Nat × List AC)) (N3 : List AC → Option (Nat × List AC)) : List AC → Option (List AC) := modelF Try.prog (C_cncref01_mul_2 M_cncref01_cut N7 N3) 64 165 sig_cncref01_mul osig_cncref01_mul
theorem st_cncref01_mul_7_eq (M_cncref01_cut : List AC → Option (List AC))  (v0 : List (List AC)) (v1 : List (List AC)) (v2 : List (List AC)) (v3 : Int) (v4 : Int) (v5 : Int) : st_cncref01_mul_7 M_cncref01_cut  [AC.view [Kd.int .u64] v0, AC.view [Kd.int .u64] v1, AC.view [Kd.int .u64] v2, AC.int .i64 v3, AC.int .u64 v4, AC.int .i64 v5] =
  bif decide (v5 < (↑v2.length : Int)) then
   bif decide (0 ≤ IntKind.i64.wrap (v3 + v5)) && decide (IntKind.i64.wrap (v3 + v5) < (↑v0.length : Int)) then
    bif decide (0 ≤ v3) && decide (v3 < (↑v1.length : Int)) then
     bif decide (0 ≤ v5) && decide (v5 < (↑v2.length : Int)) then
      bif decide (0 ≤ IntKind.i64.wrap (v3 + v5)) && decide (IntKind.i64.wrap (v3 + v5) < (↑v0.length : Int)) then
       some (0, [AC.view [Kd.int IntKind.u64] (v0.set (IntKind.i64.wrap (v3 + v5)).toNat [AC.int IntKind.u64 (IntKind.u64.wrap (↑(BitVec.ofInt IntKind.u64.bits (IntKind.u64.wrap (IntKind.u64.wrap (intOf (nth AC.dead (nth [] v0 (IntKind.i64.wrap (v3 + v5)).toNat) 0) + IntKind.u64.wrap (intOf (nth AC.dead (nth [] v1 v3.toNat) 0) * intOf (nth AC.dead (nth [] v2 v5.toNat) 0))) + v4)) &&& BitVec.ofInt IntKind.u64.bits 65535).toNat : Int))]), AC.view [Kd.int IntKind.u64] v1, AC.view [Kd.int IntKind.u64] v2, AC.int IntKind.i64 v3, AC.int IntKind.u64 ((IntKind.u64.wrap (IntKind.u64.wrap (intOf (nth AC.dead (nth [] v0 (IntKind.i64.wrap (v3 + v5)).toNat) 0) + IntKind.u64.wrap (intOf (nth AC.dead (nth [] v1 v3.toNat) 0) * intOf (nth AC.dead (nth [] v2 v5.toNat) 0))) + v4)).fdiv (2 ^ min (Int.toNat 16) IntKind.u64.bits)), AC.int IntKind.i64 (IntKind.i64.wrap (v5 + 1))])
      else
       none
     else
      none
    else
     none
   else
    none
  else
   some (1, [AC.view [Kd.int IntKind.u64] v0, AC.view [Kd.int IntKind.u64] v1, AC.view [Kd.int IntKind.u64] v2, AC.int IntKind.i64 v3, AC.int IntKind.u64 v4]) := by kernel_rfl
theorem st_cncref01_mul_3_eq (M_cncref01_cut : List AC → Option (List AC))  (N7 : List AC → Option (Nat × List AC)) (v0 : List (List AC)) (v1 : List (List AC)) (v2 : List (List AC)) (v3 : Int) : st_cncref01_mul_3 M_cncref01_cut  N7 [AC.view [Kd.int .u64] v0, AC.view [Kd.int .u64] v1, AC.view [Kd.int .u64] v2, AC.int .i64 v3] =
  bif decide (v3 < (↑v1.length : Int)) then
   (N7 [AC.view [Kd.int IntKind.u64] v0, AC.view [Kd.int IntKind.u64] v1, AC.view [Kd.int IntKind.u64] v2, AC.int IntKind.i64 v3, AC.int IntKind.u64 0, AC.int IntKind.i64 0]).bind fun o3 =>
   bif o3.fst.beq 1 then
    bif decide (0 ≤ IntKind.i64.wrap (intOf (nth AC.dead o3.snd 3) + (↑(rowsOf (nth AC.dead o3.snd 2)).length : Int))) && decide (IntKind.i64.wrap (intOf (nth AC.dead o3.snd 3) + (↑(rowsOf (nth AC.dead o3.snd 2)).length : Int)) < (↑(rowsOf (nth AC.dead o3.snd 0)).length : Int)) then
     bif decide (0 ≤ IntKind.i64.wrap (intOf (nth AC.dead o3.snd 3) + (↑(rowsOf (nth AC.dead o3.snd 2)).length : Int))) && decide (IntKind.i64.wrap (intOf (nth AC.dead o3.snd 3) + (↑(rowsOf (nth AC.dead o3.snd 2)).length : Int)) < (↑(rowsOf (nth AC.dead o3.snd 0)).length : Int)) then
      some (0, [AC.view [Kd.int IntKind.u64] ((rowsOf (nth AC.dead o3.snd 0)).set (IntKind.i64.wrap (intOf (nth AC.dead o3.snd 3) + (↑(rowsOf (nth AC.dead o3.snd 2)).length : Int))).toNat [AC.int IntKind.u64 (IntKind.u64.wrap (intOf (nth AC.dead (nth [] (rowsOf (nth AC.dead o3.snd 0)) (IntKind.i64.wrap (intOf (nth AC.dead o3.snd 3) + (↑(rowsOf (nth AC.dead o3.snd 2)).length : Int))).toNat) 0) + intOf (nth AC.dead o3.snd 4)))]), AC.view [Kd.int IntKind.u64] (rowsOf (nth AC.dead o3.snd 1)), AC.view [Kd.int IntKind.u64] (rowsOf (nth AC.dead o3.snd 2)), AC.int IntKind.i64 (IntKind.i64.wrap (intOf (nth AC.dead o3.snd 3) + 1))])
     else
      none
    else
     none
   else
    none
  else
   some (1, [AC.view [Kd.int IntKind.u64] v0]) := by kernel_rfl
theorem mf_cncref01_mul_eq (M_cncref01_cut : List AC → Option (List AC))  (N7 : List AC → Option (Nat × List AC)) (N3 : List AC → Option (Nat × List AC)) (x0 : List (List AC)) (x1 : List (List AC)) : mf_cncref01_mul M_cncref01_cut  N7 N3 [AC.view [Kd.int .u64] x0, AC.view [Kd.int .u64] x1] =
  bif decide (IntKind.i64.wrap ((↑x0.length : Int) + (↑x1.length : Int)) = IntKind.i64.wrap ((↑x0.length : Int) + (↑x1.length : Int))) then
   bif decide (0 ≤ IntKind.i64.wrap ((↑x0.length : Int) + (↑x1.length : Int))) && decide (IntKind.i64.wrap ((↑x0.length : Int) + (↑x1.length : Int)) * (↑8 : Int) ≤ 140737488355328) then
    (N3 [AC.view [Kd.int IntKind.u64] (List.replicate (IntKind.i64.wrap ((↑x0.length : Int) + (↑x1.length : Int))).toNat [AC.int IntKind.u64 0]), AC.view [Kd.int IntKind.u64] x0, AC.view [Kd.int IntKind.u64] x1, AC.int IntKind.i64 0]).bind fun o4 =>
    bif o4.fst.beq 1 then
     (M_cncref01_cut [AC.view [Kd.int IntKind.u64] (rowsOf (nth AC.dead o4.snd 0))]).bind fun o5 =>
     some [AC.view [Kd.int IntKind.u64] (rowsOf (nth AC.dead o5 0))]
    else
     none
   else
    none
  else
   none := by kernel_rfl
noncomputable def l_cncref01_mul_7 := loopC (st_cncref01_mul_7 m_cncref01_cut )
noncomputable def l_cncref01_mul_3 := loopC (st_cncref01_mul_3 m_cncref01_cut  l_cncref01_mul_7)
noncomputable def m_cncref01_mul := mf_cncref01_mul m_cncref01_cut  l_cncref01_mul_7 l_cncref01_mul_3
theorem sp_cncref01_mul : SpecOK Try.prog (C_cncref01_mul_0 m_cncref01_cut) := specOK_of rfl ⟨r_cncref01_cut, trivial⟩
theorem r_cncref01_mul : RowOK Try.prog (165, spOf sig_cncref01_mul osig_cncref01_mul m_cncref01_mul) := row_of (C := (C_cncref01_mul_2 m_cncref01_cut l_cncref01_mul_7 l_cncref01_mul_3)) (L := 64) (sig := sig_cncref01_mul) (osig := osig_cncref01_mul) (by kernel_rfl) (((FnOK.bare rfl rfl rfl).loop sp_cncref01_mul eqOk mixOk (by kernel_rfl) (by kernel_rfl)).loop sp_cncref01_mul eqOk mixOk (by kernel_rfl) (by kernel_rfl)) sp_cncref01_mul eqOk mixOk (by kernel_rfl) (by kernel_rfl)
def sig_cncref01_limbs : Sk := { tmps := [TS.v false [CS.int .u64]], boxes := [], rows := [] }
def osig_cncref01_limbs : Sk := { tmps := [TS.v false [CS.sl [Kd.int .u64]]], boxes := [], rows := [] }
noncomputable def C_cncref01_limbs_0  : Cfg := { spec := lookS [], eqOk := eqAll, ownOff := ownOff, prom := fun b => bif Nat.beq b 2 then [(3, 132)] else [] }
def sk_cncref01_limbs_2 : Sk := { tmps := [TS.v false [CS.int .u64], TS.dead, TS.dead, TS.v false [CS.own 3 1]] ++ dd 10, boxes := [], rows := [(3, 132, [Kd.int .u64])] }
def ex_cncref01_limbs_2 : List (Ex × Sk) := [(Ex.exit 0, { tmps := [TS.dead, TS.dead, TS.dead, TS.v false [CS.own 3 1]] ++ dd 10, boxes := [], rows := [(3, 132, [Kd.int .u64])] })]
noncomputable def st_cncref01_limbs_2   : List AC → Option (Nat × List AC) := stepL Try.prog C_cncref01_limbs_0 64 2 (bodyOf Try.prog 166 2) sk_cncref01_limbs_2 ex_cncref01_limbs_2
noncomputable def C_cncref01_limbs_1   (N2 : List AC → Option (Nat × List AC)) : Cfg := C_cncref01_limbs_0.loop 2 sk_cncref01_limbs_2 ex_cncref01_limbs_2 N2
noncomputable def mf_cncref01_limbs   (N2 : List AC → Option (Nat × List AC)) : List AC → Option (List AC) := modelF Try.prog (C_cncref01_limbs_1  N2) 64 166 sig_cncref01_limbs osig_cncref01_limbs
theorem st_cncref01_limbs_2_eq   (v0 : List (List AC)) (v1 : Int) : st_cncref01_limbs_2   [AC.view [Kd.int .u64] v0, AC.int .u64 v1] =
  bif decide (v1 > 0) then
   bif ((v0 ++ [[AC.int IntKind.u64 (IntKind.u64.wrap (↑(BitVec.ofInt IntKind.u64.bits v1 &&& BitVec.ofInt IntKind.u64.bits 65535).toNat : Int))]]).length * 8).ble 140737488355328 then
    some (0, [AC.view [Kd.int IntKind.u64] (v0 ++ [[AC.int IntKind.u64 (IntKind.u64.wrap (↑(BitVec.ofInt IntKind.u64.bits v1 &&& BitVec.ofInt IntKind.u64.bits 65535).toNat : Int))]]), AC.int IntKind.u64 (v1.fdiv (2 ^ min (Int.toNat 16) IntKind.u64.bits))])
   else
    none
  else
   some (1, [AC.view [Kd.int IntKind.u64] v0]) := by kernel_rfl
theorem mf_cncref01_limbs_eq   (N2 : List AC → Option (Nat × List AC)) (x0 : Int) : mf_cncref01_limbs   N2 [AC.int .u64 x0] =
  (N2 [AC.view [Kd.int IntKind.u64] [], AC.int IntKind.u64 x0]).bind fun o1 =>
  bif o1.fst.beq 1 then
   some [AC.view [Kd.int IntKind.u64] (rowsOf (nth AC.dead o1.snd 0))]
  else
   none := by kernel_rfl
noncomputable def l_cncref01_limbs_2 := loopC (st_cncref01_limbs_2  )
noncomputable def m_cncref01_limbs := mf_cncref01_limbs   l_cncref01_limbs_2
theorem sp_cncref01_limbs : SpecOK Try.prog (C_cncref01_limbs_0 ) := specOK_of rfl trivial
theorem r_cncref01_limbs : RowOK Try.prog (166, spOf sig_cncref01_limbs osig_cncref01_limbs m_cncref01_limbs) := row_of (C := (C_cncref01_limbs_1  l_cncref01_limbs_2)) (L := 64) (sig := sig_cncref01_limbs) (osig := osig_cncref01_limbs) (by kernel_rfl) ((FnOK.bare rfl rfl rfl).loop sp_cncref01_limbs eqOk mixOk (by kernel_rfl) (by kernel_rfl)) sp_cncref01_limbs eqOk mixOk (by kernel_rfl) (by kernel_rfl)
def sig_cncref01_mag : Sk := { tmps := [TS.v false [CS.int .i64]], boxes := [], rows := [] }
def osig_cncref01_mag : Sk := { tmps := [TS.v false [CS.int .u64]], boxes := [], rows := [] }
noncomputable def C_cncref01_mag_0  : Cfg := { spec := lookS [], eqOk := eqAll, ownOff := ownOff }
noncomputable def mf_cncref01_mag   : List AC → Option (List AC) := modelF Try.prog C_cncref01_mag_0 64 167 sig_cncref01_mag osig_cncref01_mag
theorem mf_cncref01_mag_eq   (x0 : Int) : mf_cncref01_mag   [AC.int .i64 x0] =
  bif decide (x0 < 0) then
   some [AC.int IntKind.u64 (IntKind.u64.wrap (IntKind.u64.wrap (IntKind.i64.wrap (0 - IntKind.i64.wrap (x0 + 1))) + 1))]
  else
   some [AC.int IntKind.u64 (IntKind.u64.wrap x0)] := by kernel_rfl
noncomputable def m_cncref01_mag := mf_cncref01_mag  
theorem sp_cncref01_mag : SpecOK Try.prog (C_cncref01_mag_0 ) := specOK_of rfl trivial
theorem r_cncref01_mag : RowOK Try.prog (167, spOf sig_cncref01_mag osig_cncref01_mag m_cncref01_mag) := row_of (C := C_cncref01_mag_0) (L := 64) (sig := sig_cncref01_mag) (osig := osig_cncref01_mag) (by kernel_rfl) (FnOK.bare rfl rfl rfl) sp_cncref01_mag eqOk mixOk (by kernel_rfl) (by kernel_rfl)
def sig_cncref01_product : Sk := { tmps := [TS.v false [CS.int .i64], TS.v false [CS.int .i64]], boxes := [], rows := [] }
def osig_cncref01_product : Sk := { tmps := [TS.v false [CS.sl [Kd.int .u64]]], boxes := [], rows := [] }
noncomputable def C_cncref01_product_0 (M_cncref01_mul : List AC → Option (List AC)) (M_cncref01_limbs : List AC → Option (List AC)) (M_cncref01_mag : List AC → Option (List AC)) : Cfg := { spec := lookS [(165, spOf sig_cncref01_mul osig_cncref01_mul M_cncref01_mul), (166, spOf sig_cncref01_limbs osig_cncref01_limbs M_cncref01_limbs), (167, spOf sig_cncref01_mag osig_cncref01_mag M_cncref01_mag)], eqOk := eqAll, ownOff := ownOff }
noncomputable def mf_cncref01_product (M_cncref01_mul : List AC → Option (List AC)) (M_cncref01_limbs : List AC → Option (List AC)) (M_cncref01_mag : List AC → Option (List AC))  : List AC → Option (List AC) := modelF Try.prog (C_cncref01_product_0 M_cncref01_mul M_cncref01_limbs M_cncref01_mag) 64 150 sig_cncref01_product osig_cncref01_product
theorem mf_cncref01_product_eq (M_cncref01_mul : List AC → Option (List AC)) (M_cncref01_limbs : List AC → Option (List AC)) (M_cncref01_mag : List AC → Option (List AC))  (x0 : Int) (x1 : Int) : mf_cncref01_product M_cncref01_mul M_cncref01_limbs M_cncref01_mag  [AC.int .i64 x0, AC.int .i64 x1] =
  (M_cncref01_mag [AC.int IntKind.i64 x0]).bind fun o5 =>
  (M_cncref01_limbs [AC.int IntKind.u64 (intOf (nth AC.dead o5 0))]).bind fun o6 =>
  (M_cncref01_mag [AC.int IntKind.i64 x1]).bind fun o7 =>
  (M_cncref01_limbs [AC.int IntKind.u64 (intOf (nth AC.dead o7 0))]).bind fun o8 =>
  (M_cncref01_mul [AC.view [Kd.int IntKind.u64] (rowsOf (nth AC.dead o6 0)), AC.view [Kd.int IntKind.u64] (rowsOf (nth AC.dead o8 0))]).bind fun o9 =>
  some [AC.view [Kd.int IntKind.u64] (rowsOf (nth AC.dead o9 0))] := by kernel_rfl
noncomputable def m_cncref01_product := mf_cncref01_product m_cncref01_mul m_cncref01_limbs m_cncref01_mag 
theorem sp_cncref01_product : SpecOK Try.prog (C_cncref01_product_0 m_cncref01_mul m_cncref01_limbs m_cncref01_mag) := specOK_of rfl ⟨r_cncref01_mul, r_cncref01_limbs, r_cncref01_mag, trivial⟩
theorem r_cncref01_product : RowOK Try.prog (150, spOf sig_cncref01_product osig_cncref01_product m_cncref01_product) := row_of (C := (C_cncref01_product_0 m_cncref01_mul m_cncref01_limbs m_cncref01_mag)) (L := 64) (sig := sig_cncref01_product) (osig := osig_cncref01_product) (by kernel_rfl) (FnOK.bare rfl rfl rfl) sp_cncref01_product eqOk mixOk (by kernel_rfl) (by kernel_rfl)
def sig_cncref01_sign : Sk := { tmps := [TS.v false [CS.int .i64], TS.v false [CS.int .i64]], boxes := [], rows := [] }
def osig_cncref01_sign : Sk := { tmps := [TS.v false [CS.int .i64]], boxes := [], rows := [] }
noncomputable def C_cncref01_sign_0  : Cfg := { spec := lookS [], eqOk := eqAll, ownOff := ownOff }
noncomputable def mf_cncref01_sign   : List AC → Option (List AC) := modelF Try.prog C_cncref01_sign_0 64 148 sig_cncref01_sign osig_cncref01_sign
theorem mf_cncref01_sign_eq   (x0 : Int) (x1 : Int) : mf_cncref01_sign   [AC.int .i64 x0, AC.int .i64 x1] =
  bif x0 == 0 then
   some [AC.int IntKind.i64 0]
  else
   bif x1 == 0 then
    some [AC.int IntKind.i64 0]
   else
    bif decide (x0 < 0) == decide (x1 < 0) then
     some [AC.int IntKind.i64 1]
    else
     some [AC.int IntKind.i64 (-1)] := by kernel_rfl
noncomputable def m_cncref01_sign := mf_cncref01_sign  
theorem sp_cncref01_sign : SpecOK Try.prog (C_cncref01_sign_0 ) := specOK_of rfl trivial
theorem r_cncref01_sign : RowOK Try.prog (148, spOf sig_cncref01_sign osig_cncref01_sign m_cncref01_sign) := row_of (C := C_cncref01_sign_0) (L := 64) (sig := sig_cncref01_sign) (osig := osig_cncref01_sign) (by kernel_rfl) (FnOK.bare rfl rfl rfl) sp_cncref01_sign eqOk mixOk (by kernel_rfl) (by kernel_rfl)
def sig_cncref01_Cmp : Sk := { tmps := [TS.v false [CS.int .i64], TS.v false [CS.int .i64], TS.v false [CS.int .i64], TS.v false [CS.int .i64]], boxes := [], rows := [] }
def osig_cncref01_Cmp : Sk := { tmps := [TS.v false [CS.int .i64]], boxes := [], rows := [] }
noncomputable def C_cncref01_Cmp_0 (M_cncref01_cmp : List AC → Option (List AC)) (M_cncref01_product : List AC → Option (List AC)) (M_cncref01_sign : List AC → Option (List AC)) : Cfg := { spec := lookS [(149, spOf sig_cncref01_cmp osig_cncref01_cmp M_cncref01_cmp), (150, spOf sig_cncref01_product osig_cncref01_product M_cncref01_product), (148, spOf sig_cncref01_sign osig_cncref01_sign M_cncref01_sign)], eqOk := eqAll, ownOff := ownOff }
noncomputable def mf_cncref01_Cmp (M_cncref01_cmp : List AC → Option (List AC)) (M_cncref01_product : List AC → Option (List AC)) (M_cncref01_sign : List AC → Option (List AC))  : List AC → Option (List AC) := modelF Try.prog (C_cncref01_Cmp_0 M_cncref01_cmp M_cncref01_product M_cncref01_sign) 64 111 sig_cncref01_Cmp osig_cncref01_Cmp
theorem mf_cncref01_Cmp_eq (M_cncref01_cmp : List AC → Option (List AC)) (M_cncref01_product : List AC → Option (List AC)) (M_cncref01_sign : List AC → Option (List AC))  (x0 : Int) (x1 : Int) (x2 : Int) (x3 : Int) : mf_cncref01_Cmp M_cncref01_cmp M_cncref01_product M_cncref01_sign  [AC.int .i64 x0, AC.int .i64 x1, AC.int .i64 x2, AC.int .i64 x3] =
  (M_cncref01_sign [AC.int IntKind.i64 x0, AC.int IntKind.i64 x1]).bind fun o5 =>
  (M_cncref01_sign [AC.int IntKind.i64 x2, AC.int IntKind.i64 x3]).bind fun o6 =>
  bif decide (intOf (nth AC.dead o5 0) < intOf (nth AC.dead o6 0)) then
   some [AC.int IntKind.i64 (-1)]
  else
   bif decide (intOf (nth AC.dead o5 0) > intOf (nth AC.dead o6 0)) then
    some [AC.int IntKind.i64 1]
   else
    (M_cncref01_product [AC.int IntKind.i64 x0, AC.int IntKind.i64 x1]).bind fun o7 =>
    (M_cncref01_product [AC.int IntKind.i64 x2, AC.int IntKind.i64 x3]).bind fun o8 =>
    (M_cncref01_cmp [AC.view [Kd.int IntKind.u64] (rowsOf (nth AC.dead o7 0)), AC.view [Kd.int IntKind.u64] (rowsOf (nth AC.dead o8 0))]).bind fun o9 =>
    some [AC.int IntKind.i64 (IntKind.i64.wrap (intOf (nth AC.dead o5 0) * intOf (nth AC.dead o9 0)))] := by kernel_rfl
noncomputable def m_cncref01_Cmp := mf_cncref01_Cmp m_cncref01_cmp m_cncref01_product m_cncref01_sign 
theorem sp_cncref01_Cmp : SpecOK Try.prog (C_cncref01_Cmp_0 m_cncref01_cmp m_cncref01_product m_cncref01_sign) := specOK_of rfl ⟨r_cncref01_cmp, r_cncref01_product, r_cncref01_sign, trivial⟩
theorem r_cncref01_Cmp : RowOK Try.prog (111, spOf sig_cncref01_Cmp osig_cncref01_Cmp m_cncref01_Cmp) := row_of (C := (C_cncref01_Cmp_0 m_cncref01_cmp m_cncref01_product m_cncref01_sign)) (L := 64) (sig := sig_cncref01_Cmp) (osig := osig_cncref01_Cmp) (by kernel_rfl) (FnOK.bare rfl rfl rfl) sp_cncref01_Cmp eqOk mixOk (by kernel_rfl) (by kernel_rfl)
def sig_cncref23_Square : Sk := { tmps := [TS.v true [CS.int .i64, CS.int .i64, CS.int .i64], TS.v true [CS.int .i64, CS.int .i64, CS.int .i64]], boxes := [], rows := [] }
def osig_cncref23_Square : Sk := { tmps := [TS.v false [CS.int .i64]], boxes := [], rows := [] }
noncomputable def C_cncref23_Square_0  : Cfg := { spec := lookS [], eqOk := eqAll, ownOff := ownOff, unroll := [3] }
noncomputable def mf_cncref23_Square   : List AC → Option (List AC) := modelF Try.prog C_cncref23_Square_0 64 110 sig_cncref23_Square osig_cncref23_Square
theorem mf_cncref23_Square_eq   (x0 : Int) (x1 : Int) (x2 : Int) (x3 : Int) (x4 : Int) (x5 : Int) : mf_cncref23_Square   [AC.int .i64 x0, AC.int .i64 x1, AC.int .i64 x2, AC.int .i64 x3, AC.int .i64 x4, AC.int .i64 x5] =
  some [AC.int IntKind.i64 (IntKind.i64.wrap (IntKind.i64.wrap (IntKind.i64.wrap (0 + IntKind.i64.wrap (IntKind.i64.wrap (x0 - x3) * IntKind.i64.wrap (x0 - x3))) + IntKind.i64.wrap (IntKind.i64.wrap (x1 - x4) * IntKind.i64.wrap (x1 - x4))) + IntKind.i64.wrap (IntKind.i64.wrap (x2 - x5) * IntKind.i64.wrap (x2 - x5))))] := by kernel_rfl
noncomputable def m_cncref23_Square := mf_cncref23_Square  
theorem sp_cncref23_Square : SpecOK Try.prog (C_cncref23_Square_0 ) := specOK_of rfl trivial
theorem r_cncref23_Square : RowOK Try.prog (110, spOf sig_cncref23_Square osig_cncref23_Square m_cncref23_Square) := row_of (C := C_cncref23_Square_0) (L := 64) (sig := sig_cncref23_Square) (osig := osig_cncref23_Square) (by kernel_rfl) (FnOK.bare rfl rfl rfl) sp_cncref23_Square eqOk mixOk (by kernel_rfl) (by kernel_rfl)
def sig_cncref24_Dot : Sk := { tmps := [TS.v true [CS.int .i64, CS.int .i64, CS.int .i64], TS.v true [CS.int .i64, CS.int .i64, CS.int .i64]], boxes := [], rows := [] }
def osig_cncref24_Dot : Sk := { tmps := [TS.v false [CS.int .i64]], boxes := [], rows := [] }
noncomputable def C_cncref24_Dot_0  : Cfg := { spec := lookS [], eqOk := eqAll, ownOff := ownOff }
noncomputable def mf_cncref24_Dot   : List AC → Option (List AC) := modelF Try.prog C_cncref24_Dot_0 64 109 sig_cncref24_Dot osig_cncref24_Dot
theorem mf_cncref24_Dot_eq   (x0 : Int) (x1 : Int) (x2 : Int) (x3 : Int) (x4 : Int) (x5 : Int) : mf_cncref24_Dot   [AC.int .i64 x0, AC.int .i64 x1, AC.int .i64 x2, AC.int .i64 x3, AC.int .i64 x4, AC.int .i64 x5] =
  some [AC.int IntKind.i64 (IntKind.i64.wrap (IntKind.i64.wrap (IntKind.i64.wrap (x0 * x3) + IntKind.i64.wrap (x1 * x4)) + IntKind.i64.wrap (x2 * x5)))] := by kernel_rfl
noncomputable def m_cncref24_Dot := mf_cncref24_Dot  
theorem sp_cncref24_Dot : SpecOK Try.prog (C_cncref24_Dot_0 ) := specOK_of rfl trivial
theorem r_cncref24_Dot : RowOK Try.prog (109, spOf sig_cncref24_Dot osig_cncref24_Dot m_cncref24_Dot) := row_of (C := C_cncref24_Dot_0) (L := 64) (sig := sig_cncref24_Dot) (osig := osig_cncref24_Dot) (by kernel_rfl) (FnOK.bare rfl rfl rfl) sp_cncref24_Dot eqOk mixOk (by kernel_rfl) (by kernel_rfl)
def sig_cncref24_Minus : Sk := { tmps := [TS.v true [CS.int .i64, CS.int .i64, CS.int .i64], TS.v true [CS.int .i64, CS.int .i64, CS.int .i64]], boxes := [], rows := [] }
def osig_cncref24_Minus : Sk := { tmps := [TS.v true [CS.int .i64, CS.int .i64, CS.int .i64]], boxes := [], rows := [] }
noncomputable def C_cncref24_Minus_0  : Cfg := { spec := lookS [], eqOk := eqAll, ownOff := ownOff }
noncomputable def mf_cncref24_Minus   : List AC → Option (List AC) := modelF Try.prog C_cncref24_Minus_0 64 108 sig_cncref24_Minus osig_cncref24_Minus
theorem mf_cncref24_Minus_eq   (x0 : Int) (x1 : Int) (x2 : Int) (x3 : Int) (x4 : Int) (x5 : Int) : mf_cncref24_Minus   [AC.int .i64 x0, AC.int .i64 x1, AC.int .i64 x2, AC.int .i64 x3, AC.int .i64 x4, AC.int .i64 x5] =
  some [AC.int IntKind.i64 (IntKind.i64.wrap (x0 - x3)), AC.int IntKind.i64 (IntKind.i64.wrap (x1 - x4)), AC.int IntKind.i64 (IntKind.i64.wrap (x2 - x5))] := by kernel_rfl
noncomputable def m_cncref24_Minus := mf_cncref24_Minus  
theorem sp_cncref24_Minus : SpecOK Try.prog (C_cncref24_Minus_0 ) := specOK_of rfl trivial
theorem r_cncref24_Minus : RowOK Try.prog (108, spOf sig_cncref24_Minus osig_cncref24_Minus m_cncref24_Minus) := row_of (C := C_cncref24_Minus_0) (L := 64) (sig := sig_cncref24_Minus) (osig := osig_cncref24_Minus) (by kernel_rfl) (FnOK.bare rfl rfl rfl) sp_cncref24_Minus eqOk mixOk (by kernel_rfl) (by kernel_rfl)
def sig_cncref24_OnSegment : Sk := { tmps := [TS.v true [CS.int .i64, CS.int .i64, CS.int .i64], TS.v true [CS.int .i64, CS.int .i64, CS.int .i64], TS.v true [CS.int .i64, CS.int .i64, CS.int .i64], TS.v false [CS.int .i64]], boxes := [], rows := [] }
def osig_cncref24_OnSegment : Sk := { tmps := [TS.v false [CS.bool]], boxes := [], rows := [] }
noncomputable def C_cncref24_OnSegment_0 (M_cncref01_Cmp : List AC → Option (List AC)) (M_cncref23_Square : List AC → Option (List AC)) (M_cncref24_Dot : List AC → Option (List AC)) (M_cncref24_Minus : List AC → Option (List AC)) : Cfg := { spec := lookS [(111, spOf sig_cncref01_Cmp osig_cncref01_Cmp M_cncref01_Cmp), (110, spOf sig_cncref23_Square osig_cncref23_Square M_cncref23_Square), (109, spOf sig_cncref24_Dot osig_cncref24_Dot M_cncref24_Dot), (108, spOf sig_cncref24_Minus osig_cncref24_Minus M_cncref24_Minus)], eqOk := eqAll, ownOff := ownOff }
noncomputable def mf_cncref24_OnSegment (M_cncref01_Cmp : List AC → Option (List AC)) (M_cncref23_Square : List AC → Option (List AC)) (M_cncref24_Dot : List AC → Option (List AC)) (M_cncref24_Minus : List AC → Option (List AC))  : List AC → Option (List AC) := modelF Try.prog (C_cncref24_OnSegment_0 M_cncref01_Cmp M_cncref23_Square M_cncref24_Dot M_cncref24_Minus) 64 58 sig_cncref24_OnSegment osig_cncref24_OnSegment
theorem mf_cncref24_OnSegment_eq (M_cncref01_Cmp : List AC → Option (List AC)) (M_cncref23_Square : List AC → Option (List AC)) (M_cncref24_Dot : List AC → Option (List AC)) (M_cncref24_Minus : List AC → Option (List AC))  (x0 : Int) (x1 : Int) (x2 : Int) (x3 : Int) (x4 : Int) (x5 : Int) (x6 : Int) (x7 : Int) (x8 : Int) (x9 : Int) : mf_cncref24_OnSegment M_cncref01_Cmp M_cncref23_Square M_cncref24_Dot M_cncref24_Minus  [AC.int .i64 x0, AC.int .i64 x1, AC.int .i64 x2, AC.int .i64 x3, AC.int .i64 x4, AC.int .i64 x5, AC.int .i64 x6, AC.int .i64 x7, AC.int .i64 x8, AC.int .i64 x9] =
  (M_cncref24_Minus [AC.int IntKind.i64 x3, AC.int IntKind.i64 x4, AC.int IntKind.i64 x5, AC.int IntKind.i64 x0, AC.int IntKind.i64 x1, AC.int IntKind.i64 x2]).bind fun o8 =>
  (M_cncref24_Minus [AC.int IntKind.i64 x6, AC.int IntKind.i64 x7, AC.int IntKind.i64 x8, AC.int IntKind.i64 x0, AC.int IntKind.i64 x1, AC.int IntKind.i64 x2]).bind fun o9 =>
  (M_cncref24_Dot [AC.int IntKind.i64 (intOf (nth AC.dead o8 0)), AC.int IntKind.i64 (intOf (nth AC.dead o8 1)), AC.int IntKind.i64 (intOf (nth AC.dead o8 2)), AC.int IntKind.i64 (intOf (nth AC.dead o8 0)), AC.int IntKind.i64 (intOf (nth AC.dead o8 1)), AC.int IntKind.i64 (intOf (nth AC.dead o8 2))]).bind fun o10 =>
  (M_cncref24_Dot [AC.int IntKind.i64 (intOf (nth AC.dead o8 0)), AC.int IntKind.i64 (intOf (nth AC.dead o8 1)), AC.int IntKind.i64 (intOf (nth AC.dead o8 2)), AC.int IntKind.i64 (intOf (nth AC.dead o9 0)), AC.int IntKind.i64 (intOf (nth AC.dead o9 1)), AC.int IntKind.i64 (intOf (nth AC.dead o9 2))]).bind fun o11 =>
  bif decide (intOf (nth AC.dead o11 0) ≤ 0) then
   (M_cncref24_Dot [AC.int IntKind.i64 (intOf (nth AC.dead o9 0)), AC.int IntKind.i64 (intOf (nth AC.dead o9 1)), AC.int IntKind.i64 (intOf (nth AC.dead o9 2)), AC.int IntKind.i64 (intOf (nth AC.dead o9 0)), AC.int IntKind.i64 (intOf (nth AC.dead o9 1)), AC.int IntKind.i64 (intOf (nth AC.dead o9 2))]).bind fun o12 =>
   some [AC.bool (decide (intOf (nth AC.dead o12 0) ≤ IntKind.i64.wrap (x9 * x9)))]
  else
   bif decide (intOf (nth AC.dead o11 0) ≥ intOf (nth AC.dead o10 0)) then
    (M_cncref23_Square [AC.int IntKind.i64 x3, AC.int IntKind.i64 x4, AC.int IntKind.i64 x5, AC.int IntKind.i64 x6, AC.int IntKind.i64 x7, AC.int IntKind.i64 x8]).bind fun o13 =>
    some [AC.bool (decide (intOf (nth AC.dead o13 0) ≤ IntKind.i64.wrap (x9 * x9)))]
   else
    (M_cncref24_Dot [AC.int IntKind.i64 (intOf (nth AC.dead o9 0)), AC.int IntKind.i64 (intOf (nth AC.dead o9 1)), AC.int IntKind.i64 (intOf (nth AC.dead o9 2)), AC.int IntKind.i64 (intOf (nth AC.dead o9 0)), AC.int IntKind.i64 (intOf (nth AC.dead o9 1)), AC.int IntKind.i64 (intOf (nth AC.dead o9 2))]).bind fun o14 =>
    (M_cncref01_Cmp [AC.int IntKind.i64 (IntKind.i64.wrap (intOf (nth AC.dead o14 0) - IntKind.i64.wrap (x9 * x9))), AC.int IntKind.i64 (intOf (nth AC.dead o10 0)), AC.int IntKind.i64 (intOf (nth AC.dead o11 0)), AC.int IntKind.i64 (intOf (nth AC.dead o11 0))]).bind fun o15 =>
    some [AC.bool (decide (intOf (nth AC.dead o15 0) ≤ 0))] := by kernel_rfl
noncomputable def m_cncref24_OnSegment := mf_cncref24_OnSegment m_cncref01_Cmp m_cncref23_Square m_cncref24_Dot m_cncref24_Minus 
theorem sp_cncref24_OnSegment : SpecOK Try.prog (C_cncref24_OnSegment_0 m_cncref01_Cmp m_cncref23_Square m_cncref24_Dot m_cncref24_Minus) := specOK_of rfl ⟨r_cncref01_Cmp, r_cncref23_Square, r_cncref24_Dot, r_cncref24_Minus, trivial⟩
theorem r_cncref24_OnSegment : RowOK Try.prog (58, spOf sig_cncref24_OnSegment osig_cncref24_OnSegment m_cncref24_OnSegment) := row_of (C := (C_cncref24_OnSegment_0 m_cncref01_Cmp m_cncref23_Square m_cncref24_Dot m_cncref24_Minus)) (L := 64) (sig := sig_cncref24_OnSegment) (osig := osig_cncref24_OnSegment) (by kernel_rfl) (FnOK.bare rfl rfl rfl) sp_cncref24_OnSegment eqOk mixOk (by kernel_rfl) (by kernel_rfl)
def sig_cncref41_OnLine : Sk := { tmps := [TS.v true [CS.int .i64, CS.int .i64, CS.int .i64], TS.v true [CS.int .i64, CS.int .i64, CS.int .i64], TS.v true [CS.int .i64, CS.int .i64, CS.int .i64], TS.v false [CS.int .i64]], boxes := [], rows := [] }
def osig_cncref41_OnLine : Sk := { tmps := [TS.v false [CS.bool]], boxes := [], rows := [] }
noncomputable def C_cncref41_OnLine_0 (M_cncref24_OnSegment : List AC → Option (List AC)) : Cfg := { spec := lookS [(58, spOf sig_cncref24_OnSegment osig_cncref24_OnSegment M_cncref24_OnSegment)], eqOk := eqAll, ownOff := ownOff }
noncomputable def mf_cncref41_OnLine (M_cncref24_OnSegment : List AC → Option (List AC))  : List AC → Option (List AC) := modelF Try.prog (C_cncref41_OnLine_0 M_cncref24_OnSegment) 64 21 sig_cncref41_OnLine osig_cncref41_OnLine
theorem mf_cncref41_OnLine_eq (M_cncref24_OnSegment : List AC → Option (List AC))  (x0 : Int) (x1 : Int) (x2 : Int) (x3 : Int) (x4 : Int) (x5 : Int) (x6 : Int) (x7 : Int) (x8 : Int) (x9 : Int) : mf_cncref41_OnLine M_cncref24_OnSegment  [AC.int .i64 x0, AC.int .i64 x1, AC.int .i64 x2, AC.int .i64 x3, AC.int .i64 x4, AC.int .i64 x5, AC.int .i64 x6, AC.int .i64 x7, AC.int .i64 x8, AC.int .i64 x9] =
  (M_cncref24_OnSegment [AC.int IntKind.i64 x0, AC.int IntKind.i64 x1, AC.int IntKind.i64 x2, AC.int IntKind.i64 x3, AC.int IntKind.i64 x4, AC.int IntKind.i64 x5, AC.int IntKind.i64 x6, AC.int IntKind.i64 x7, AC.int IntKind.i64 x8, AC.int IntKind.i64 x9]).bind fun o1 =>
  some [AC.bool (boolOf (nth AC.dead o1 0))] := by kernel_rfl
noncomputable def m_cncref41_OnLine := mf_cncref41_OnLine m_cncref24_OnSegment 
theorem sp_cncref41_OnLine : SpecOK Try.prog (C_cncref41_OnLine_0 m_cncref24_OnSegment) := specOK_of rfl ⟨r_cncref24_OnSegment, trivial⟩
theorem r_cncref41_OnLine : RowOK Try.prog (21, spOf sig_cncref41_OnLine osig_cncref41_OnLine m_cncref41_OnLine) := row_of (C := (C_cncref41_OnLine_0 m_cncref24_OnSegment)) (L := 64) (sig := sig_cncref41_OnLine) (osig := osig_cncref41_OnLine) (by kernel_rfl) (FnOK.bare rfl rfl rfl) sp_cncref41_OnLine eqOk mixOk (by kernel_rfl) (by kernel_rfl)
def sig_wide_compare : Sk := { tmps := [TS.v true [CS.int .u64, CS.int .u64], TS.v true [CS.int .u64, CS.int .u64]], boxes := [], rows := [] }
def osig_wide_compare : Sk := { tmps := [TS.v false [CS.int .i64]], boxes := [], rows := [] }
noncomputable def C_wide_compare_0  : Cfg := { spec := lookS [], eqOk := eqAll, ownOff := ownOff }
noncomputable def mf_wide_compare   : List AC → Option (List AC) := modelF Try.prog C_wide_compare_0 64 105 sig_wide_compare osig_wide_compare
theorem mf_wide_compare_eq   (x0 : Int) (x1 : Int) (x2 : Int) (x3 : Int) : mf_wide_compare   [AC.int .u64 x0, AC.int .u64 x1, AC.int .u64 x2, AC.int .u64 x3] =
  bif decide (x0 < x2) then
   some [AC.int IntKind.i64 (-1)]
  else
   bif x0 == x2 then
    bif decide (x1 < x3) then
     some [AC.int IntKind.i64 (-1)]
    else
     bif x0 == x2 && (x1 == x3 && true) then
      some [AC.int IntKind.i64 0]
     else
      some [AC.int IntKind.i64 1]
   else
    bif x0 == x2 && (x1 == x3 && true) then
     some [AC.int IntKind.i64 0]
    else
     some [AC.int IntKind.i64 1] := by kernel_rfl
noncomputable def m_wide_compare := mf_wide_compare  
theorem sp_wide_compare : SpecOK Try.prog (C_wide_compare_0 ) := specOK_of rfl trivial
theorem r_wide_compare : RowOK Try.prog (105, spOf sig_wide_compare osig_wide_compare m_wide_compare) := row_of (C := C_wide_compare_0) (L := 64) (sig := sig_wide_compare) (osig := osig_wide_compare) (by kernel_rfl) (FnOK.bare rfl rfl rfl) sp_wide_compare eqOk mixOk (by kernel_rfl) (by kernel_rfl)
def sig_wide_product : Sk := { tmps := [TS.v false [CS.int .u64], TS.v false [CS.int .u64]], boxes := [], rows := [] }
def osig_wide_product : Sk := { tmps := [TS.v true [CS.int .u64, CS.int .u64]], boxes := [], rows := [] }
noncomputable def C_wide_product_0 (M_bits_Mul64 : List AC → Option (List AC)) : Cfg := { spec := lookS [(147, spOf sig_bits_Mul64 osig_bits_Mul64 M_bits_Mul64)], eqOk := eqAll, ownOff := ownOff }
noncomputable def mf_wide_product (M_bits_Mul64 : List AC → Option (List AC))  : List AC → Option (List AC) := modelF Try.prog (C_wide_product_0 M_bits_Mul64) 64 106 sig_wide_product osig_wide_product
theorem mf_wide_product_eq (M_bits_Mul64 : List AC → Option (List AC))  (x0 : Int) (x1 : Int) : mf_wide_product M_bits_Mul64  [AC.int .u64 x0, AC.int .u64 x1] =
  (M_bits_Mul64 [AC.int IntKind.u64 x0, AC.int IntKind.u64 x1]).bind fun o1 =>
  some [AC.int IntKind.u64 (intOf (nth AC.dead o1 0)), AC.int IntKind.u64 (intOf (nth AC.dead o1 1))] := by kernel_rfl
noncomputable def m_wide_product := mf_wide_product m_bits_Mul64 
theorem sp_wide_product : SpecOK Try.prog (C_wide_product_0 m_bits_Mul64) := specOK_of rfl ⟨r_bits_Mul64, trivial⟩
theorem r_wide_product : RowOK Try.prog (106, spOf sig_wide_product osig_wide_product m_wide_product) := row_of (C := (C_wide_product_0 m_bits_Mul64)) (L := 64) (sig := sig_wide_product) (osig := osig_wide_product) (by kernel_rfl) (FnOK.bare rfl rfl rfl) sp_wide_product eqOk mixOk (by kernel_rfl) (by kernel_rfl)
def sig_wide_size : Sk := { tmps := [TS.v false [CS.int .i64]], boxes := [], rows := [] }
def osig_wide_size : Sk := { tmps := [TS.v false [CS.int .u64]], boxes := [], rows := [] }
noncomputable def C_wide_size_0  : Cfg := { spec := lookS [], eqOk := eqAll, ownOff := ownOff }
noncomputable def mf_wide_size   : List AC → Option (List AC) := modelF Try.prog C_wide_size_0 64 107 sig_wide_size osig_wide_size
theorem mf_wide_size_eq   (x0 : Int) : mf_wide_size   [AC.int .i64 x0] =
  bif decide (x0 < 0) then
   some [AC.int IntKind.u64 (IntKind.u64.wrap (IntKind.u64.wrap (IntKind.i64.wrap (0 - IntKind.i64.wrap (x0 + 1))) + 1))]
  else
   some [AC.int IntKind.u64 (IntKind.u64.wrap x0)] := by kernel_rfl
noncomputable def m_wide_size := mf_wide_size  
theorem sp_wide_size : SpecOK Try.prog (C_wide_size_0 ) := specOK_of rfl trivial
theorem r_wide_size : RowOK Try.prog (107, spOf sig_wide_size osig_wide_size m_wide_size) := row_of (C := C_wide_size_0) (L := 64) (sig := sig_wide_size) (osig := osig_wide_size) (by kernel_rfl) (FnOK.bare rfl rfl rfl) sp_wide_size eqOk mixOk (by kernel_rfl) (by kernel_rfl)
def sig_wide_sign : Sk := { tmps := [TS.v false [CS.int .i64], TS.v false [CS.int .i64]], boxes := [], rows := [] }
def osig_wide_sign : Sk := { tmps := [TS.v false [CS.int .i64]], boxes := [], rows := [] }
noncomputable def C_wide_sign_0  : Cfg := { spec := lookS [], eqOk := eqAll, ownOff := ownOff }
noncomputable def mf_wide_sign   : List AC → Option (List AC) := modelF Try.prog C_wide_sign_0 64 104 sig_wide_sign osig_wide_sign
theorem mf_wide_sign_eq   (x0 : Int) (x1 : Int) : mf_wide_sign   [AC.int .i64 x0, AC.int .i64 x1] =
  bif x0 == 0 then
   some [AC.int IntKind.i64 0]
  else
   bif x1 == 0 then
    some [AC.int IntKind.i64 0]
   else
    bif decide (x0 < 0) == decide (x1 < 0) then
     some [AC.int IntKind.i64 1]
    else
     some [AC.int IntKind.i64 (-1)] := by kernel_rfl
noncomputable def m_wide_sign := mf_wide_sign  
theorem sp_wide_sign : SpecOK Try.prog (C_wide_sign_0 ) := specOK_of rfl trivial
theorem r_wide_sign : RowOK Try.prog (104, spOf sig_wide_sign osig_wide_sign m_wide_sign) := row_of (C := C_wide_sign_0) (L := 64) (sig := sig_wide_sign) (osig := osig_wide_sign) (by kernel_rfl) (FnOK.bare rfl rfl rfl) sp_wide_sign eqOk mixOk (by kernel_rfl) (by kernel_rfl)
def sig_wide_Cmp : Sk := { tmps := [TS.v false [CS.int .i64], TS.v false [CS.int .i64], TS.v false [CS.int .i64], TS.v false [CS.int .i64]], boxes := [], rows := [] }
def osig_wide_Cmp : Sk := { tmps := [TS.v false [CS.int .i64]], boxes := [], rows := [] }
noncomputable def C_wide_Cmp_0 (M_wide_compare : List AC → Option (List AC)) (M_wide_product : List AC → Option (List AC)) (M_wide_size : List AC → Option (List AC)) (M_wide_sign : List AC → Option (List AC)) : Cfg := { spec := lookS [(105, spOf sig_wide_compare osig_wide_compare M_wide_compare), (106, spOf sig_wide_product osig_wide_product M_wide_product), (107, spOf sig_wide_size osig_wide_size M_wide_size), (104, spOf sig_wide_sign osig_wide_sign M_wide_sign)], eqOk := eqAll, ownOff := ownOff }
noncomputable def mf_wide_Cmp (M_wide_compare : List AC → Option (List AC)) (M_wide_product : List AC → Option (List AC)) (M_wide_size : List AC → Option (List AC)) (M_wide_sign : List AC → Option (List AC))  : List AC → Option (List AC) := modelF Try.prog (C_wide_Cmp_0 M_wide_compare M_wide_product M_wide_size M_wide_sign) 64 57 sig_wide_Cmp osig_wide_Cmp
theorem mf_wide_Cmp_eq (M_wide_compare : List AC → Option (List AC)) (M_wide_product : List AC → Option (List AC)) (M_wide_size : List AC → Option (List AC)) (M_wide_sign : List AC → Option (List AC))  (x0 : Int) (x1 : Int) (x2 : Int) (x3 : Int) : mf_wide_Cmp M_wide_compare M_wide_product M_wide_size M_wide_sign  [AC.int .i64 x0, AC.int .i64 x1, AC.int .i64 x2, AC.int .i64 x3] =
  (M_wide_sign [AC.int IntKind.i64 x0, AC.int IntKind.i64 x1]).bind fun o9 =>
  (M_wide_sign [AC.int IntKind.i64 x2, AC.int IntKind.i64 x3]).bind fun o10 =>
  bif intOf (nth AC.dead o9 0) != intOf (nth AC.dead o10 0) then
   bif decide (intOf (nth AC.dead o9 0) < intOf (nth AC.dead o10 0)) then
    some [AC.int IntKind.i64 (-1)]
   else
    some [AC.int IntKind.i64 1]
  else
   (M_wide_size [AC.int IntKind.i64 x0]).bind fun o11 =>
   (M_wide_size [AC.int IntKind.i64 x1]).bind fun o12 =>
   (M_wide_product [AC.int IntKind.u64 (intOf (nth AC.dead o11 0)), AC.int IntKind.u64 (intOf (nth AC.dead o12 0))]).bind fun o13 =>
   (M_wide_size [AC.int IntKind.i64 x2]).bind fun o14 =>
   (M_wide_size [AC.int IntKind.i64 x3]).bind fun o15 =>
   (M_wide_product [AC.int IntKind.u64 (intOf (nth AC.dead o14 0)), AC.int IntKind.u64 (intOf (nth AC.dead o15 0))]).bind fun o16 =>
   (M_wide_compare [AC.int IntKind.u64 (intOf (nth AC.dead o13 0)), AC.int IntKind.u64 (intOf (nth AC.dead o13 1)), AC.int IntKind.u64 (intOf (nth AC.dead o16 0)), AC.int IntKind.u64 (intOf (nth AC.dead o16 1))]).bind fun o17 =>
   some [AC.int IntKind.i64 (IntKind.i64.wrap (intOf (nth AC.dead o9 0) * intOf (nth AC.dead o17 0)))] := by kernel_rfl
noncomputable def m_wide_Cmp := mf_wide_Cmp m_wide_compare m_wide_product m_wide_size m_wide_sign 
theorem sp_wide_Cmp : SpecOK Try.prog (C_wide_Cmp_0 m_wide_compare m_wide_product m_wide_size m_wide_sign) := specOK_of rfl ⟨r_wide_compare, r_wide_product, r_wide_size, r_wide_sign, trivial⟩
theorem r_wide_Cmp : RowOK Try.prog (57, spOf sig_wide_Cmp osig_wide_Cmp m_wide_Cmp) := row_of (C := (C_wide_Cmp_0 m_wide_compare m_wide_product m_wide_size m_wide_sign)) (L := 64) (sig := sig_wide_Cmp) (osig := osig_wide_Cmp) (by kernel_rfl) (FnOK.bare rfl rfl rfl) sp_wide_Cmp eqOk mixOk (by kernel_rfl) (by kernel_rfl)
def sig_contour_product : Sk := { tmps := [TS.v true [CS.int .i64, CS.int .i64, CS.int .i64], TS.v true [CS.int .i64, CS.int .i64, CS.int .i64]], boxes := [], rows := [] }
def osig_contour_product : Sk := { tmps := [TS.v false [CS.int .i64]], boxes := [], rows := [] }
noncomputable def C_contour_product_0  : Cfg := { spec := lookS [], eqOk := eqAll, ownOff := ownOff }
noncomputable def mf_contour_product   : List AC → Option (List AC) := modelF Try.prog C_contour_product_0 64 56 sig_contour_product osig_contour_product
theorem mf_contour_product_eq   (x0 : Int) (x1 : Int) (x2 : Int) (x3 : Int) (x4 : Int) (x5 : Int) : mf_contour_product   [AC.int .i64 x0, AC.int .i64 x1, AC.int .i64 x2, AC.int .i64 x3, AC.int .i64 x4, AC.int .i64 x5] =
  some [AC.int IntKind.i64 (IntKind.i64.wrap (IntKind.i64.wrap (IntKind.i64.wrap (x0 * x3) + IntKind.i64.wrap (x1 * x4)) + IntKind.i64.wrap (x2 * x5)))] := by kernel_rfl
noncomputable def m_contour_product := mf_contour_product  
theorem sp_contour_product : SpecOK Try.prog (C_contour_product_0 ) := specOK_of rfl trivial
theorem r_contour_product : RowOK Try.prog (56, spOf sig_contour_product osig_contour_product m_contour_product) := row_of (C := C_contour_product_0) (L := 64) (sig := sig_contour_product) (osig := osig_contour_product) (by kernel_rfl) (FnOK.bare rfl rfl rfl) sp_contour_product eqOk mixOk (by kernel_rfl) (by kernel_rfl)
def sig_contour_difference : Sk := { tmps := [TS.v true [CS.int .i64, CS.int .i64, CS.int .i64], TS.v true [CS.int .i64, CS.int .i64, CS.int .i64]], boxes := [], rows := [] }
def osig_contour_difference : Sk := { tmps := [TS.v true [CS.int .i64, CS.int .i64, CS.int .i64]], boxes := [], rows := [] }
noncomputable def C_contour_difference_0  : Cfg := { spec := lookS [], eqOk := eqAll, ownOff := ownOff, unroll := [2] }
noncomputable def mf_contour_difference   : List AC → Option (List AC) := modelF Try.prog C_contour_difference_0 64 55 sig_contour_difference osig_contour_difference
theorem mf_contour_difference_eq   (x0 : Int) (x1 : Int) (x2 : Int) (x3 : Int) (x4 : Int) (x5 : Int) : mf_contour_difference   [AC.int .i64 x0, AC.int .i64 x1, AC.int .i64 x2, AC.int .i64 x3, AC.int .i64 x4, AC.int .i64 x5] =
  some [AC.int IntKind.i64 (IntKind.i64.wrap (x0 - x3)), AC.int IntKind.i64 (IntKind.i64.wrap (x1 - x4)), AC.int IntKind.i64 (IntKind.i64.wrap (x2 - x5))] := by kernel_rfl
noncomputable def m_contour_difference := mf_contour_difference  
theorem sp_contour_difference : SpecOK Try.prog (C_contour_difference_0 ) := specOK_of rfl trivial
theorem r_contour_difference : RowOK Try.prog (55, spOf sig_contour_difference osig_contour_difference m_contour_difference) := row_of (C := C_contour_difference_0) (L := 64) (sig := sig_contour_difference) (osig := osig_contour_difference) (by kernel_rfl) (FnOK.bare rfl rfl rfl) sp_contour_difference eqOk mixOk (by kernel_rfl) (by kernel_rfl)
def sig_contour_OnLine : Sk := { tmps := [TS.v true [CS.int .i64, CS.int .i64, CS.int .i64], TS.v true [CS.int .i64, CS.int .i64, CS.int .i64], TS.v true [CS.int .i64, CS.int .i64, CS.int .i64], TS.v false [CS.int .i64]], boxes := [], rows := [] }
def osig_contour_OnLine : Sk := { tmps := [TS.v false [CS.bool]], boxes := [], rows := [] }
noncomputable def C_contour_OnLine_0 (M_wide_Cmp : List AC → Option (List AC)) (M_contour_product : List AC → Option (List AC)) (M_contour_difference : List AC → Option (List AC)) : Cfg := { spec := lookS [(57, spOf sig_wide_Cmp osig_wide_Cmp M_wide_Cmp), (56, spOf sig_contour_product osig_contour_product M_contour_product), (55, spOf sig_contour_difference osig_contour_difference M_contour_difference)], eqOk := eqAll, ownOff := ownOff }
noncomputable def mf_contour_OnLine (M_wide_Cmp : List AC → Option (List AC)) (M_contour_product : List AC → Option (List AC)) (M_contour_difference : List AC → Option (List AC))  : List AC → Option (List AC) := modelF Try.prog (C_contour_OnLine_0 M_wide_Cmp M_contour_product M_contour_difference) 64 20 sig_contour_OnLine osig_contour_OnLine
theorem mf_contour_OnLine_eq (M_wide_Cmp : List AC → Option (List AC)) (M_contour_product : List AC → Option (List AC)) (M_contour_difference : List AC → Option (List AC))  (x0 : Int) (x1 : Int) (x2 : Int) (x3 : Int) (x4 : Int) (x5 : Int) (x6 : Int) (x7 : Int) (x8 : Int) (x9 : Int) : mf_contour_OnLine M_wide_Cmp M_contour_product M_contour_difference  [AC.int .i64 x0, AC.int .i64 x1, AC.int .i64 x2, AC.int .i64 x3, AC.int .i64 x4, AC.int .i64 x5, AC.int .i64 x6, AC.int .i64 x7, AC.int .i64 x8, AC.int .i64 x9] =
  (M_contour_difference [AC.int IntKind.i64 x3, AC.int IntKind.i64 x4, AC.int IntKind.i64 x5, AC.int IntKind.i64 x0, AC.int IntKind.i64 x1, AC.int IntKind.i64 x2]).bind fun o9 =>
  (M_contour_difference [AC.int IntKind.i64 x6, AC.int IntKind.i64 x7, AC.int IntKind.i64 x8, AC.int IntKind.i64 x0, AC.int IntKind.i64 x1, AC.int IntKind.i64 x2]).bind fun o10 =>
  (M_contour_difference [AC.int IntKind.i64 x6, AC.int IntKind.i64 x7, AC.int IntKind.i64 x8, AC.int IntKind.i64 x3, AC.int IntKind.i64 x4, AC.int IntKind.i64 x5]).bind fun o11 =>
  (M_contour_product [AC.int IntKind.i64 (intOf (nth AC.dead o9 0)), AC.int IntKind.i64 (intOf (nth AC.dead o9 1)), AC.int IntKind.i64 (intOf (nth AC.dead o9 2)), AC.int IntKind.i64 (intOf (nth AC.dead o10 0)), AC.int IntKind.i64 (intOf (nth AC.dead o10 1)), AC.int IntKind.i64 (intOf (nth AC.dead o10 2))]).bind fun o12 =>
  (M_contour_product [AC.int IntKind.i64 (intOf (nth AC.dead o9 0)), AC.int IntKind.i64 (intOf (nth AC.dead o9 1)), AC.int IntKind.i64 (intOf (nth AC.dead o9 2)), AC.int IntKind.i64 (intOf (nth AC.dead o9 0)), AC.int IntKind.i64 (intOf (nth AC.dead o9 1)), AC.int IntKind.i64 (intOf (nth AC.dead o9 2))]).bind fun o13 =>
  bif decide (intOf (nth AC.dead o12 0) ≤ 0) then
   (M_contour_product [AC.int IntKind.i64 (intOf (nth AC.dead o10 0)), AC.int IntKind.i64 (intOf (nth AC.dead o10 1)), AC.int IntKind.i64 (intOf (nth AC.dead o10 2)), AC.int IntKind.i64 (intOf (nth AC.dead o10 0)), AC.int IntKind.i64 (intOf (nth AC.dead o10 1)), AC.int IntKind.i64 (intOf (nth AC.dead o10 2))]).bind fun o14 =>
   some [AC.bool (decide (intOf (nth AC.dead o14 0) ≤ IntKind.i64.wrap (x9 * x9)))]
  else
   bif decide (intOf (nth AC.dead o12 0) ≥ intOf (nth AC.dead o13 0)) then
    (M_contour_product [AC.int IntKind.i64 (intOf (nth AC.dead o11 0)), AC.int IntKind.i64 (intOf (nth AC.dead o11 1)), AC.int IntKind.i64 (intOf (nth AC.dead o11 2)), AC.int IntKind.i64 (intOf (nth AC.dead o11 0)), AC.int IntKind.i64 (intOf (nth AC.dead o11 1)), AC.int IntKind.i64 (intOf (nth AC.dead o11 2))]).bind fun o15 =>
    some [AC.bool (decide (intOf (nth AC.dead o15 0) ≤ IntKind.i64.wrap (x9 * x9)))]
   else
    (M_contour_product [AC.int IntKind.i64 (intOf (nth AC.dead o10 0)), AC.int IntKind.i64 (intOf (nth AC.dead o10 1)), AC.int IntKind.i64 (intOf (nth AC.dead o10 2)), AC.int IntKind.i64 (intOf (nth AC.dead o10 0)), AC.int IntKind.i64 (intOf (nth AC.dead o10 1)), AC.int IntKind.i64 (intOf (nth AC.dead o10 2))]).bind fun o16 =>
    (M_wide_Cmp [AC.int IntKind.i64 (IntKind.i64.wrap (intOf (nth AC.dead o16 0) - IntKind.i64.wrap (x9 * x9))), AC.int IntKind.i64 (intOf (nth AC.dead o13 0)), AC.int IntKind.i64 (intOf (nth AC.dead o12 0)), AC.int IntKind.i64 (intOf (nth AC.dead o12 0))]).bind fun o17 =>
    some [AC.bool (decide (intOf (nth AC.dead o17 0) ≤ 0))] := by kernel_rfl
noncomputable def m_contour_OnLine := mf_contour_OnLine m_wide_Cmp m_contour_product m_contour_difference 
theorem sp_contour_OnLine : SpecOK Try.prog (C_contour_OnLine_0 m_wide_Cmp m_contour_product m_contour_difference) := specOK_of rfl ⟨r_wide_Cmp, r_contour_product, r_contour_difference, trivial⟩
theorem r_contour_OnLine : RowOK Try.prog (20, spOf sig_contour_OnLine osig_contour_OnLine m_contour_OnLine) := row_of (C := (C_contour_OnLine_0 m_wide_Cmp m_contour_product m_contour_difference)) (L := 64) (sig := sig_contour_OnLine) (osig := osig_contour_OnLine) (by kernel_rfl) (FnOK.bare rfl rfl rfl) sp_contour_OnLine eqOk mixOk (by kernel_rfl) (by kernel_rfl)
def sig_cncmill_Mod : Sk := { tmps := [TS.v false [CS.int .i64], TS.v false [CS.int .i64]], boxes := [], rows := [] }
def osig_cncmill_Mod : Sk := { tmps := [TS.v false [CS.int .i64]], boxes := [], rows := [] }
noncomputable def C_cncmill_Mod_0  : Cfg := { spec := lookS [], eqOk := eqAll, ownOff := ownOff }
noncomputable def mf_cncmill_Mod   : List AC → Option (List AC) := modelF Try.prog C_cncmill_Mod_0 64 23 sig_cncmill_Mod osig_cncmill_Mod
theorem mf_cncmill_Mod_eq   (x0 : Int) (x1 : Int) : mf_cncmill_Mod   [AC.int .i64 x0, AC.int .i64 x1] =
  bif decide (x1 = 0) then
   none
  else
   bif decide (x1 = 0) then
    none
   else
    some [AC.int IntKind.i64 ((IntKind.i64.wrap (x0.tmod x1 + x1)).tmod x1)] := by kernel_rfl
noncomputable def m_cncmill_Mod := mf_cncmill_Mod  
theorem sp_cncmill_Mod : SpecOK Try.prog (C_cncmill_Mod_0 ) := specOK_of rfl trivial
theorem r_cncmill_Mod : RowOK Try.prog (23, spOf sig_cncmill_Mod osig_cncmill_Mod m_cncmill_Mod) := row_of (C := C_cncmill_Mod_0) (L := 64) (sig := sig_cncmill_Mod) (osig := osig_cncmill_Mod) (by kernel_rfl) (FnOK.bare rfl rfl rfl) sp_cncmill_Mod eqOk mixOk (by kernel_rfl) (by kernel_rfl)
def sig_cncref23_small : Sk := { tmps := [TS.v true [CS.int .i64, CS.int .i64, CS.int .i64], TS.v false [CS.int .i64]], boxes := [], rows := [] }
def osig_cncref23_small : Sk := { tmps := [TS.v false [CS.bool]], boxes := [], rows := [] }
noncomputable def C_cncref23_small_0  : Cfg := { spec := lookS [], eqOk := eqAll, ownOff := ownOff, unroll := [2] }
noncomputable def mf_cncref23_small   : List AC → Option (List AC) := modelF Try.prog C_cncref23_small_0 64 54 sig_cncref23_small osig_cncref23_small
theorem mf_cncref23_small_eq   (x0 : Int) (x1 : Int) (x2 : Int) (x3 : Int) : mf_cncref23_small   [AC.int .i64 x0, AC.int .i64 x1, AC.int .i64 x2, AC.int .i64 x3] =
  bif decide (x0 < IntKind.i64.wrap (0 - x3)) then
   some [AC.bool false]
  else
   bif decide (x0 > x3) then
    some [AC.bool false]
   else
    bif decide (x1 < IntKind.i64.wrap (0 - x3)) then
     some [AC.bool false]
    else
     bif decide (x1 > x3) then
      some [AC.bool false]
     else
      bif decide (x2 < IntKind.i64.wrap (0 - x3)) then
       some [AC.bool false]
      else
       bif decide (x2 > x3) then
        some [AC.bool false]
       else
        some [AC.bool true] := by kernel_rfl
noncomputable def m_cncref23_small := mf_cncref23_small  
theorem sp_cncref23_small : SpecOK Try.prog (C_cncref23_small_0 ) := specOK_of rfl trivial
theorem r_cncref23_small : RowOK Try.prog (54, spOf sig_cncref23_small osig_cncref23_small m_cncref23_small) := row_of (C := C_cncref23_small_0) (L := 64) (sig := sig_cncref23_small) (osig := osig_cncref23_small) (by kernel_rfl) (FnOK.bare rfl rfl rfl) sp_cncref23_small eqOk mixOk (by kernel_rfl) (by kernel_rfl)
def sig_cncref23_Small : Sk := { tmps := [TS.v true [CS.int .i64, CS.int .i64, CS.int .i64]], boxes := [], rows := [] }
def osig_cncref23_Small : Sk := { tmps := [TS.v false [CS.bool]], boxes := [], rows := [] }
noncomputable def C_cncref23_Small_0 (M_cncref23_small : List AC → Option (List AC)) : Cfg := { spec := lookS [(54, spOf sig_cncref23_small osig_cncref23_small M_cncref23_small)], eqOk := eqAll, ownOff := ownOff }
noncomputable def mf_cncref23_Small (M_cncref23_small : List AC → Option (List AC))  : List AC → Option (List AC) := modelF Try.prog (C_cncref23_Small_0 M_cncref23_small) 64 17 sig_cncref23_Small osig_cncref23_Small
theorem mf_cncref23_Small_eq (M_cncref23_small : List AC → Option (List AC))  (x0 : Int) (x1 : Int) (x2 : Int) : mf_cncref23_Small M_cncref23_small  [AC.int .i64 x0, AC.int .i64 x1, AC.int .i64 x2] =
  (M_cncref23_small [AC.int IntKind.i64 x0, AC.int IntKind.i64 x1, AC.int IntKind.i64 x2, AC.int IntKind.i64 33554432]).bind fun o1 =>
  some [AC.bool (boolOf (nth AC.dead o1 0))] := by kernel_rfl
noncomputable def m_cncref23_Small := mf_cncref23_Small m_cncref23_small 
theorem sp_cncref23_Small : SpecOK Try.prog (C_cncref23_Small_0 m_cncref23_small) := specOK_of rfl ⟨r_cncref23_small, trivial⟩
theorem r_cncref23_Small : RowOK Try.prog (17, spOf sig_cncref23_Small osig_cncref23_Small m_cncref23_Small) := row_of (C := (C_cncref23_Small_0 m_cncref23_small)) (L := 64) (sig := sig_cncref23_Small) (osig := osig_cncref23_Small) (by kernel_rfl) (FnOK.bare rfl rfl rfl) sp_cncref23_Small eqOk mixOk (by kernel_rfl) (by kernel_rfl)
def sig_contour_scaled : Sk := { tmps := [TS.v true [CS.int .i64, CS.int .i64, CS.int .i64]], boxes := [], rows := [] }
def osig_contour_scaled : Sk := { tmps := [TS.v true [CS.int .i64, CS.int .i64, CS.int .i64]], boxes := [], rows := [] }
noncomputable def C_contour_scaled_0  : Cfg := { spec := lookS [], eqOk := eqAll, ownOff := ownOff }
noncomputable def mf_contour_scaled   : List AC → Option (List AC) := modelF Try.prog C_contour_scaled_0 64 68 sig_contour_scaled osig_contour_scaled
theorem mf_contour_scaled_eq   (x0 : Int) (x1 : Int) (x2 : Int) : mf_contour_scaled   [AC.int .i64 x0, AC.int .i64 x1, AC.int .i64 x2] =
  some [AC.int IntKind.i64 (IntKind.i64.wrap (x0 * 16)), AC.int IntKind.i64 (IntKind.i64.wrap (x1 * 16)), AC.int IntKind.i64 (IntKind.i64.wrap (x2 * 16))] := by kernel_rfl
noncomputable def m_contour_scaled := mf_contour_scaled  
theorem sp_contour_scaled : SpecOK Try.prog (C_contour_scaled_0 ) := specOK_of rfl trivial
theorem r_contour_scaled : RowOK Try.prog (68, spOf sig_contour_scaled osig_contour_scaled m_contour_scaled) := row_of (C := C_contour_scaled_0) (L := 64) (sig := sig_contour_scaled) (osig := osig_contour_scaled) (by kernel_rfl) (FnOK.bare rfl rfl rfl) sp_contour_scaled eqOk mixOk (by kernel_rfl) (by kernel_rfl)
def sig_curve_cross : Sk := { tmps := [TS.v true [CS.int .i64, CS.int .i64, CS.int .i64, CS.int .i64], TS.v true [CS.int .i64, CS.int .i64, CS.int .i64, CS.int .i64]], boxes := [], rows := [] }
def osig_curve_cross : Sk := { tmps := [TS.v false [CS.int .i64]], boxes := [], rows := [] }
noncomputable def C_curve_cross_0  : Cfg := { spec := lookS [], eqOk := eqAll, ownOff := ownOff }
noncomputable def mf_curve_cross   : List AC → Option (List AC) := modelF Try.prog C_curve_cross_0 64 122 sig_curve_cross osig_curve_cross
theorem mf_curve_cross_eq   (x0 : Int) (x1 : Int) (x2 : Int) (x3 : Int) (x4 : Int) (x5 : Int) (x6 : Int) (x7 : Int) : mf_curve_cross   [AC.int .i64 x0, AC.int .i64 x1, AC.int .i64 x2, AC.int .i64 x3, AC.int .i64 x4, AC.int .i64 x5, AC.int .i64 x6, AC.int .i64 x7] =
  some [AC.int IntKind.i64 (IntKind.i64.wrap (IntKind.i64.wrap (x0 * x5) - IntKind.i64.wrap (x1 * x4)))] := by kernel_rfl
noncomputable def m_curve_cross := mf_curve_cross  
theorem sp_curve_cross : SpecOK Try.prog (C_curve_cross_0 ) := specOK_of rfl trivial
theorem r_curve_cross : RowOK Try.prog (122, spOf sig_curve_cross osig_curve_cross m_curve_cross) := row_of (C := C_curve_cross_0) (L := 64) (sig := sig_curve_cross) (osig := osig_curve_cross) (by kernel_rfl) (FnOK.bare rfl rfl rfl) sp_curve_cross eqOk mixOk (by kernel_rfl) (by kernel_rfl)
def sig_curve_near : Sk := { tmps := [TS.v false [CS.int .i64], TS.v false [CS.int .i64]], boxes := [], rows := [] }
def osig_curve_near : Sk := { tmps := [TS.v false [CS.bool]], boxes := [], rows := [] }
noncomputable def C_curve_near_0 (M_wide_Cmp : List AC → Option (List AC)) : Cfg := { spec := lookS [(57, spOf sig_wide_Cmp osig_wide_Cmp M_wide_Cmp)], eqOk := eqAll, ownOff := ownOff }
noncomputable def mf_curve_near (M_wide_Cmp : List AC → Option (List AC))  : List AC → Option (List AC) := modelF Try.prog (C_curve_near_0 M_wide_Cmp) 64 121 sig_curve_near osig_curve_near
theorem mf_curve_near_eq (M_wide_Cmp : List AC → Option (List AC))  (x0 : Int) (x1 : Int) : mf_curve_near M_wide_Cmp  [AC.int .i64 x0, AC.int .i64 x1] =
  bif decide (IntKind.i64.wrap (IntKind.i64.wrap (mx x0 x1 - mn x0 x1) - 16) ≤ 0) then
   some [AC.bool true]
  else
   (M_wide_Cmp [AC.int IntKind.i64 (IntKind.i64.wrap (IntKind.i64.wrap (mx x0 x1 - mn x0 x1) - 16)), AC.int IntKind.i64 (IntKind.i64.wrap (IntKind.i64.wrap (mx x0 x1 - mn x0 x1) - 16)), AC.int IntKind.i64 64, AC.int IntKind.i64 (mn x0 x1)]).bind fun o1 =>
   some [AC.bool (decide (intOf (nth AC.dead o1 0) ≤ 0))] := by kernel_rfl
noncomputable def m_curve_near := mf_curve_near m_wide_Cmp 
theorem sp_curve_near : SpecOK Try.prog (C_curve_near_0 m_wide_Cmp) := specOK_of rfl ⟨r_wide_Cmp, trivial⟩
theorem r_curve_near : RowOK Try.prog (121, spOf sig_curve_near osig_curve_near m_curve_near) := row_of (C := (C_curve_near_0 m_wide_Cmp)) (L := 64) (sig := sig_curve_near) (osig := osig_curve_near) (by kernel_rfl) (FnOK.bare rfl rfl rfl) sp_curve_near eqOk mixOk (by kernel_rfl) (by kernel_rfl)
def sig_curve_dot : Sk := { tmps := [TS.v true [CS.int .i64, CS.int .i64, CS.int .i64, CS.int .i64], TS.v true [CS.int .i64, CS.int .i64, CS.int .i64, CS.int .i64]], boxes := [], rows := [] }
def osig_curve_dot : Sk := { tmps := [TS.v false [CS.int .i64]], boxes := [], rows := [] }
noncomputable def C_curve_dot_0  : Cfg := { spec := lookS [], eqOk := eqAll, ownOff := ownOff }
noncomputable def mf_curve_dot   : List AC → Option (List AC) := modelF Try.prog C_curve_dot_0 64 120 sig_curve_dot osig_curve_dot
theorem mf_curve_dot_eq   (x0 : Int) (x1 : Int) (x2 : Int) (x3 : Int) (x4 : Int) (x5 : Int) (x6 : Int) (x7 : Int) : mf_curve_dot   [AC.int .i64 x0, AC.int .i64 x1, AC.int .i64 x2, AC.int .i64 x3, AC.int .i64 x4, AC.int .i64 x5, AC.int .i64 x6, AC.int .i64 x7] =
  some [AC.int IntKind.i64 (IntKind.i64.wrap (IntKind.i64.wrap (x0 * x4) + IntKind.i64.wrap (x1 * x5)))] := by kernel_rfl
noncomputable def m_curve_dot := mf_curve_dot  
theorem sp_curve_dot : SpecOK Try.prog (C_curve_dot_0 ) := specOK_of rfl trivial
theorem r_curve_dot : RowOK Try.prog (120, spOf sig_curve_dot osig_curve_dot m_curve_dot) := row_of (C := C_curve_dot_0) (L := 64) (sig := sig_curve_dot) (osig := osig_curve_dot) (by kernel_rfl) (FnOK.bare rfl rfl rfl) sp_curve_dot eqOk mixOk (by kernel_rfl) (by kernel_rfl)
def sig_curve_axes : Sk := { tmps := [TS.v false [CS.int .i64]], boxes := [], rows := [] }
def osig_curve_axes : Sk := { tmps := [TS.tup [(false, [CS.int .i64]), (false, [CS.int .i64]), (false, [CS.int .i64]), (false, [CS.bool])]], boxes := [], rows := [] }
noncomputable def C_curve_axes_0  : Cfg := { spec := lookS [], eqOk := eqAll, ownOff := ownOff }
noncomputable def mf_curve_axes   : List AC → Option (List AC) := modelF Try.prog C_curve_axes_0 64 118 sig_curve_axes osig_curve_axes
theorem mf_curve_axes_eq   (x0 : Int) : mf_curve_axes   [AC.int .i64 x0] =
  bif x0 == 17 then
   some [AC.int IntKind.i64 0, AC.int IntKind.i64 1, AC.int IntKind.i64 2, AC.bool true]
  else
   bif x0 == 18 then
    some [AC.int IntKind.i64 2, AC.int IntKind.i64 0, AC.int IntKind.i64 1, AC.bool true]
   else
    bif x0 == 19 then
     some [AC.int IntKind.i64 1, AC.int IntKind.i64 2, AC.int IntKind.i64 0, AC.bool true]
    else
     some [AC.int IntKind.i64 0, AC.int IntKind.i64 0, AC.int IntKind.i64 0, AC.bool false] := by kernel_rfl
noncomputable def m_curve_axes := mf_curve_axes  
theorem sp_curve_axes : SpecOK Try.prog (C_curve_axes_0 ) := specOK_of rfl trivial
theorem r_curve_axes : RowOK Try.prog (118, spOf sig_curve_axes osig_curve_axes m_curve_axes) := row_of (C := C_curve_axes_0) (L := 64) (sig := sig_curve_axes) (osig := osig_curve_axes) (by kernel_rfl) (FnOK.bare rfl rfl rfl) sp_curve_axes eqOk mixOk (by kernel_rfl) (by kernel_rfl)
def sig_curve_Plane : Sk := { tmps := [TS.v true [CS.int .i64, CS.int .i64, CS.int .i64], TS.v false [CS.int .i64]], boxes := [], rows := [] }
def osig_curve_Plane : Sk := { tmps := [TS.tup [(false, [CS.int .i64]), (false, [CS.int .i64]), (false, [CS.int .i64])]], boxes := [], rows := [] }
noncomputable def C_curve_Plane_0 (M_curve_axes : List AC → Option (List AC)) : Cfg := { spec := lookS [(118, spOf sig_curve_axes osig_curve_axes M_curve_axes)], eqOk := eqAll, ownOff := ownOff }
noncomputable def mf_curve_Plane (M_curve_axes : List AC → Option (List AC))  : List AC → Option (List AC) := modelF Try.prog (C_curve_Plane_0 M_curve_axes) 64 67 sig_curve_Plane osig_curve_Plane
theorem mf_curve_Plane_eq (M_curve_axes : List AC → Option (List AC))  (x0 : Int) (x1 : Int) (x2 : Int) (x3 : Int) : mf_curve_Plane M_curve_axes  [AC.int .i64 x0, AC.int .i64 x1, AC.int .i64 x2, AC.int .i64 x3] =
  (M_curve_axes [AC.int IntKind.i64 x3]).bind fun o1 =>
  bif !boolOf (nth AC.dead o1 3) then
   some [AC.int IntKind.i64 0, AC.int IntKind.i64 0, AC.int IntKind.i64 0]
  else
   bif decide (intOf (nth AC.dead o1 0) = (↑0 : Int)) then
    bif decide (intOf (nth AC.dead o1 1) = (↑0 : Int)) then
     bif decide (intOf (nth AC.dead o1 2) = (↑0 : Int)) then
      some [AC.int IntKind.i64 x0, AC.int IntKind.i64 x0, AC.int IntKind.i64 x0]
     else
      bif decide (intOf (nth AC.dead o1 2) = (↑(0 + 1) : Int)) then
       some [AC.int IntKind.i64 x0, AC.int IntKind.i64 x0, AC.int IntKind.i64 x1]
      else
       bif decide (intOf (nth AC.dead o1 2) = (↑(0 + 1 + 1) : Int)) then
        some [AC.int IntKind.i64 x0, AC.int IntKind.i64 x0, AC.int IntKind.i64 x2]
       else
        none
    else
     bif decide (intOf (nth AC.dead o1 1) = (↑(0 + 1) : Int)) then
      bif decide (intOf (nth AC.dead o1 2) = (↑0 : Int)) then
       some [AC.int IntKind.i64 x0, AC.int IntKind.i64 x1, AC.int IntKind.i64 x0]
      else
       bif decide (intOf (nth AC.dead o1 2) = (↑(0 + 1) : Int)) then
        some [AC.int IntKind.i64 x0, AC.int IntKind.i64 x1, AC.int IntKind.i64 x1]
       else
        bif decide (intOf (nth AC.dead o1 2) = (↑(0 + 1 + 1) : Int)) then
         some [AC.int IntKind.i64 x0, AC.int IntKind.i64 x1, AC.int IntKind.i64 x2]
        else
         none
     else
      bif decide (intOf (nth AC.dead o1 1) = (↑(0 + 1 + 1) : Int)) then
       bif decide (intOf (nth AC.dead o1 2) = (↑0 : Int)) then
        some [AC.int IntKind.i64 x0, AC.int IntKind.i64 x2, AC.int IntKind.i64 x0]
       else
        bif decide (intOf (nth AC.dead o1 2) = (↑(0 + 1) : Int)) then
         some [AC.int IntKind.i64 x0, AC.int IntKind.i64 x2, AC.int IntKind.i64 x1]
        else
         bif decide (intOf (nth AC.dead o1 2) = (↑(0 + 1 + 1) : Int)) then
          some [AC.int IntKind.i64 x0, AC.int IntKind.i64 x2, AC.int IntKind.i64 x2]
         else
          none
      else
       none
   else
    bif decide (intOf (nth AC.dead o1 0) = (↑(0 + 1) : Int)) then
     bif decide (intOf (nth AC.dead o1 1) = (↑0 : Int)) then
      bif decide (intOf (nth AC.dead o1 2) = (↑0 : Int)) then
       some [AC.int IntKind.i64 x1, AC.int IntKind.i64 x0, AC.int IntKind.i64 x0]
      else
       bif decide (intOf (nth AC.dead o1 2) = (↑(0 + 1) : Int)) then
        some [AC.int IntKind.i64 x1, AC.int IntKind.i64 x0, AC.int IntKind.i64 x1]
       else
        bif decide (intOf (nth AC.dead o1 2) = (↑(0 + 1 + 1) : Int)) then
         some [AC.int IntKind.i64 x1, AC.int IntKind.i64 x0, AC.int IntKind.i64 x2]
        else
         none
     else
      bif decide (intOf (nth AC.dead o1 1) = (↑(0 + 1) : Int)) then
       bif decide (intOf (nth AC.dead o1 2) = (↑0 : Int)) then
        some [AC.int IntKind.i64 x1, AC.int IntKind.i64 x1, AC.int IntKind.i64 x0]
       else
        bif decide (intOf (nth AC.dead o1 2) = (↑(0 + 1) : Int)) then
         some [AC.int IntKind.i64 x1, AC.int IntKind.i64 x1, AC.int IntKind.i64 x1]
        else
         bif decide (intOf (nth AC.dead o1 2) = (↑(0 + 1 + 1) : Int)) then
          some [AC.int IntKind.i64 x1, AC.int IntKind.i64 x1, AC.int IntKind.i64 x2]
         else
          none
      else
       bif decide (intOf (nth AC.dead o1 1) = (↑(0 + 1 + 1) : Int)) then
        bif decide (intOf (nth AC.dead o1 2) = (↑0 : Int)) then
         some [AC.int IntKind.i64 x1, AC.int IntKind.i64 x2, AC.int IntKind.i64 x0]
        else
         bif decide (intOf (nth AC.dead o1 2) = (↑(0 + 1) : Int)) then
          some [AC.int IntKind.i64 x1, AC.int IntKind.i64 x2, AC.int IntKind.i64 x1]
         else
          bif decide (intOf (nth AC.dead o1 2) = (↑(0 + 1 + 1) : Int)) then
           some [AC.int IntKind.i64 x1, AC.int IntKind.i64 x2, AC.int IntKind.i64 x2]
          else
           none
       else
        none
    else
     bif decide (intOf (nth AC.dead o1 0) = (↑(0 + 1 + 1) : Int)) then
      bif decide (intOf (nth AC.dead o1 1) = (↑0 : Int)) then
       bif decide (intOf (nth AC.dead o1 2) = (↑0 : Int)) then
        some [AC.int IntKind.i64 x2, AC.int IntKind.i64 x0, AC.int IntKind.i64 x0]
       else
        bif decide (intOf (nth AC.dead o1 2) = (↑(0 + 1) : Int)) then
         some [AC.int IntKind.i64 x2, AC.int IntKind.i64 x0, AC.int IntKind.i64 x1]
        else
         bif decide (intOf (nth AC.dead o1 2) = (↑(0 + 1 + 1) : Int)) then
          some [AC.int IntKind.i64 x2, AC.int IntKind.i64 x0, AC.int IntKind.i64 x2]
         else
          none
      else
       bif decide (intOf (nth AC.dead o1 1) = (↑(0 + 1) : Int)) then
        bif decide (intOf (nth AC.dead o1 2) = (↑0 : Int)) then
         some [AC.int IntKind.i64 x2, AC.int IntKind.i64 x1, AC.int IntKind.i64 x0]
        else
         bif decide (intOf (nth AC.dead o1 2) = (↑(0 + 1) : Int)) then
          some [AC.int IntKind.i64 x2, AC.int IntKind.i64 x1, AC.int IntKind.i64 x1]
         else
          bif decide (intOf (nth AC.dead o1 2) = (↑(0 + 1 + 1) : Int)) then
           some [AC.int IntKind.i64 x2, AC.int IntKind.i64 x1, AC.int IntKind.i64 x2]
          else
           none
       else
        bif decide (intOf (nth AC.dead o1 1) = (↑(0 + 1 + 1) : Int)) then
         bif decide (intOf (nth AC.dead o1 2) = (↑0 : Int)) then
          some [AC.int IntKind.i64 x2, AC.int IntKind.i64 x2, AC.int IntKind.i64 x0]
         else
          bif decide (intOf (nth AC.dead o1 2) = (↑(0 + 1) : Int)) then
           some [AC.int IntKind.i64 x2, AC.int IntKind.i64 x2, AC.int IntKind.i64 x1]
          else
           bif decide (intOf (nth AC.dead o1 2) = (↑(0 + 1 + 1) : Int)) then
            some [AC.int IntKind.i64 x2, AC.int IntKind.i64 x2, AC.int IntKind.i64 x2]
           else
            none
        else
         none
     else
      none := by kernel_rfl
noncomputable def m_curve_Plane := mf_curve_Plane m_curve_axes 
theorem sp_curve_Plane : SpecOK Try.prog (C_curve_Plane_0 m_curve_axes) := specOK_of rfl ⟨r_curve_axes, trivial⟩
theorem r_curve_Plane : RowOK Try.prog (67, spOf sig_curve_Plane osig_curve_Plane m_curve_Plane) := row_of (C := (C_curve_Plane_0 m_curve_axes)) (L := 64) (sig := sig_curve_Plane) (osig := osig_curve_Plane) (by kernel_rfl) (FnOK.bare rfl rfl rfl) sp_curve_Plane eqOk mixOk (by kernel_rfl) (by kernel_rfl)
def sig_curve_scaled : Sk := { tmps := [TS.v true [CS.int .i64, CS.int .i64, CS.int .i64]], boxes := [], rows := [] }
def osig_curve_scaled : Sk := { tmps := [TS.v true [CS.int .i64, CS.int .i64, CS.int .i64]], boxes := [], rows := [] }
noncomputable def C_curve_scaled_0  : Cfg := { spec := lookS [], eqOk := eqAll, ownOff := ownOff }
noncomputable def mf_curve_scaled   : List AC → Option (List AC) := modelF Try.prog C_curve_scaled_0 64 93 sig_curve_scaled osig_curve_scaled
theorem mf_curve_scaled_eq   (x0 : Int) (x1 : Int) (x2 : Int) : mf_curve_scaled   [AC.int .i64 x0, AC.int .i64 x1, AC.int .i64 x2] =
  some [AC.int IntKind.i64 (IntKind.i64.wrap (x0 * 16)), AC.int IntKind.i64 (IntKind.i64.wrap (x1 * 16)), AC.int IntKind.i64 (IntKind.i64.wrap (x2 * 16))] := by kernel_rfl
noncomputable def m_curve_scaled := mf_curve_scaled  
theorem sp_curve_scaled : SpecOK Try.prog (C_curve_scaled_0 ) := specOK_of rfl trivial
theorem r_curve_scaled : RowOK Try.prog (93, spOf sig_curve_scaled osig_curve_scaled m_curve_scaled) := row_of (C := C_curve_scaled_0) (L := 64) (sig := sig_curve_scaled) (osig := osig_curve_scaled) (by kernel_rfl) (FnOK.bare rfl rfl rfl) sp_curve_scaled eqOk mixOk (by kernel_rfl) (by kernel_rfl)
def sig_curve_ends : Sk := { tmps := [TS.v true [CS.int .i64, CS.int .i64, CS.int .i64, CS.int .i64, CS.int .i64, CS.int .i64, CS.int .i64, CS.int .i64, CS.int .i64, CS.int .i64, CS.int .i64, CS.int .i64, CS.int .i64, CS.bool, CS.int .i64, CS.bool, CS.int .i64, CS.int .i64, CS.int .i64, CS.int .i64, CS.int .i64, CS.bool]], boxes := [], rows := [] }
def osig_curve_ends : Sk := { tmps := [TS.tup [(true, [CS.int .i64, CS.int .i64, CS.int .i64, CS.int .i64]), (true, [CS.int .i64, CS.int .i64, CS.int .i64, CS.int .i64])]], boxes := [], rows := [] }
noncomputable def C_curve_ends_0 (M_curve_Plane : List AC → Option (List AC)) (M_curve_scaled : List AC → Option (List AC)) : Cfg := { spec := lookS [(67, spOf sig_curve_Plane osig_curve_Plane M_curve_Plane), (93, spOf sig_curve_scaled osig_curve_scaled M_curve_scaled)], eqOk := eqAll, ownOff := ownOff }
def sk_curve_ends_4 : Sk := { tmps := [TS.dead, TS.v false [CS.ptr 1 0], TS.v false [CS.ptr 2 0], TS.v false [CS.ptr 3 0], TS.v false [CS.ptr 4 0], TS.v false [CS.int .i64], TS.v false [CS.int .i64], TS.dead, TS.dead, TS.dead, TS.dead, TS.dead, TS.dead, TS.dead, TS.dead, TS.dead, TS.dead, TS.dead, TS.dead, TS.dead, TS.dead, TS.dead, TS.dead, TS.dead, TS.dead, TS.dead, TS.dead, TS.v true [CS.int .i64, CS.int .i64, CS.int .i64, CS.int .i64, CS.int .i64, CS.int .i64], TS.v false [CS.int .i64]] ++ dd 27, boxes := [(1, 33, [CS.int .i64, CS.int .i64, CS.int .i64, CS.int .i64, CS.int .i64, CS.int .i64, CS.int .i64, CS.int .i64, CS.int .i64, CS.int .i64, CS.int .i64, CS.int .i64, CS.int .i64, CS.bool, CS.int .i64, CS.bool, CS.int .i64, CS.int .i64, CS.int .i64, CS.int .i64, CS.int .i64, CS.bool]), (2, 99, [CS.int .i64, CS.int .i64, CS.int .i64, CS.int .i64]), (3, 99, [CS.int .i64, CS.int .i64, CS.int .i64, CS.int .i64]), (4, 170, [CS.int .i64, CS.int .i64, CS.int .i64, CS.int .i64, CS.int .i64, CS.int .i64, CS.int .i64, CS.int .i64])], rows := [] }
def ex_curve_ends_4 : List (Ex × Sk) := [(Ex.exit 0, { tmps := [TS.dead, TS.dead, TS.v false [CS.ptr 2 0], TS.v false [CS.ptr 3 0], TS.v false [CS.ptr 4 0]] ++ dd 51, boxes := [(2, 99, [CS.int .i64, CS.int .i64, CS.int .i64, CS.int .i64]), (3, 99, [CS.int .i64, CS.int .i64, CS.int .i64, CS.int .i64]), (4, 170, [CS.int .i64, CS.int .i64, CS.int .i64, CS.int .i64, CS.int .i64, CS.int .i64, CS.int .i64, CS.int .i64])], rows := [] })]
noncomputable def st_curve_ends_4 (M_curve_Plane : List AC → Option (List AC)) (M_curve_scaled : List AC → Option (List AC))  : List AC → Option (Nat × List AC) := stepL Try.prog (C_curve_ends_0 M_curve_Plane M_curve_scaled) 64 4 (bodyOf Try.prog 119 4) sk_curve_ends_4 ex_curve_ends_4
noncomputable def C_curve_ends_1 (M_curve_Plane : List AC → Option (List AC)) (M_curve_scaled : List AC → Option (List AC))  (N4 : List AC → Option (Nat × List AC)) : Cfg := (C_curve_ends_0 M_curve_Plane M_curve_scaled).loop 4 sk_curve_ends_4 ex_curve_ends_4 N4
noncomputable def mf_curve_ends (M_curve_Plane : List AC → Option (List AC)) (M_curve_scaled : List AC → Option (List AC))  (N4 : List AC → Option (Nat × List AC)) : List AC → Option (List AC) := modelF Try.prog (C_curve_ends_1 M_curve_Plane M_curve_scaled N4) 64 119 sig_curve_ends osig_curve_ends
theorem st_curve_ends_4_eq (M_curve_Plane : List AC → Option (List AC)) (M_curve_scaled : List AC → Option (List AC))  (v0 : Int) (v1 : Int) (v2 : Int) (v3 : Int) (v4 : Int) (v5 : Int) (v6 : Int) (v7 : Int) (v8 : Int) (v9 : Int) (v10 : Int) (v11 : Int) (v12 : Int) (v13 : Int) (v14 : Int) (v15 : Int) (v16 : Int) (v17 : Int) (v18 : Int) (v19 : Int) (v20 : Int) (v21 : Int) (v22 : Bool) (v23 : Int) (v24 : Bool) (v25 : Int) (v26 : Int) (v27 : Int) (v28 : Int) (v29 : Int) (v30 : Bool) (v31 : Int) (v32 : Int) (v33 : Int) (v34 : Int) (v35 : Int) (v36 : Int) (v37 : Int) (v38 : Int) (v39 : Int) (v40 : Int) (v41 : Int) (v42 : Int) (v43 : Int) (v44 : Int) (v45 : Int) (v46 : Int) : st_curve_ends_4 M_curve_Plane M_curve_scaled  [AC.int .i64 v0, AC.int .i64 v1, AC.int .i64 v2, AC.int .i64 v3, AC.int .i64 v4, AC.int .i64 v5, AC.int .i64 v6, AC.int .i64 v7, AC.int .i64 v8, AC.int .i64 v9, AC.int .i64 v10, AC.int .i64 v11, AC.int .i64 v12, AC.int .i64 v13, AC.int .i64 v14, AC.int .i64 v15, AC.int .i64 v16, AC.int .i64 v17, AC.int .i64 v18, AC.int .i64 v19, AC.int .i64 v20, AC.int .i64 v21, AC.bool v22, AC.int .i64 v23, AC.bool v24, AC.int .i64 v25, AC.int .i64 v26, AC.int .i64 v27, AC.int .i64 v28, AC.int .i64 v29, AC.bool v30, AC.int .i64 v31, AC.int .i64 v32, AC.int .i64 v33, AC.int .i64 v34, AC.int .i64 v35, AC.int .i64 v36, AC.int .i64 v37, AC.int .i64 v38, AC.int .i64 v39, AC.int .i64 v40, AC.int .i64 v41, AC.int .i64 v42, AC.int .i64 v43, AC.int .i64 v44, AC.int .i64 v45, AC.int .i64 v46] =
  bif decide (v8 < 2) then
   bif decide (v8 = (↑0 : Int)) then
    (M_curve_scaled [AC.int IntKind.i64 v2, AC.int IntKind.i64 v3, AC.int IntKind.i64 v4]).bind fun o9 =>
    (M_curve_Plane [AC.int IntKind.i64 (intOf (nth AC.dead o9 0)), AC.int IntKind.i64 (intOf (nth AC.dead o9 1)), AC.int IntKind.i64 (intOf (nth AC.dead o9 2)), AC.int IntKind.i64 v17]).bind fun o10 =>
    bif decide (v8 = (↑0 : Int)) then
     some (0, [AC.int IntKind.i64 v0, AC.int IntKind.i64 v1, AC.int IntKind.i64 v2, AC.int IntKind.i64 v3, AC.int IntKind.i64 v4, AC.int IntKind.i64 v5, AC.int IntKind.i64 v6, AC.int IntKind.i64 v7, AC.int IntKind.i64 (IntKind.i64.wrap (v8 + 1)), AC.int IntKind.i64 v9, AC.int IntKind.i64 v10, AC.int IntKind.i64 v11, AC.int IntKind.i64 v12, AC.int IntKind.i64 v13, AC.int IntKind.i64 v14, AC.int IntKind.i64 v15, AC.int IntKind.i64 v16, AC.int IntKind.i64 v17, AC.int IntKind.i64 v18, AC.int IntKind.i64 v19, AC.int IntKind.i64 v20, AC.int IntKind.i64 v21, AC.bool v22, AC.int IntKind.i64 v23, AC.bool v24, AC.int IntKind.i64 v25, AC.int IntKind.i64 v26, AC.int IntKind.i64 v27, AC.int IntKind.i64 v28, AC.int IntKind.i64 v29, AC.bool v30, AC.int IntKind.i64 v31, AC.int IntKind.i64 v32, AC.int IntKind.i64 v33, AC.int IntKind.i64 v34, AC.int IntKind.i64 v35, AC.int IntKind.i64 v36, AC.int IntKind.i64 v37, AC.int IntKind.i64 v38, AC.int IntKind.i64 (IntKind.i64.wrap (intOf (nth AC.dead o10 0) - v0)), AC.int IntKind.i64 (IntKind.i64.wrap (intOf (nth AC.dead o10 1) - v1)), AC.int IntKind.i64 0, AC.int IntKind.i64 (intOf (nth AC.dead o10 2)), AC.int IntKind.i64 v43, AC.int IntKind.i64 v44, AC.int IntKind.i64 v45, AC.int IntKind.i64 v46])
    else
     bif decide (v8 = (↑(0 + 1) : Int)) then
      some (0, [AC.int IntKind.i64 v0, AC.int IntKind.i64 v1, AC.int IntKind.i64 v2, AC.int IntKind.i64 v3, AC.int IntKind.i64 v4, AC.int IntKind.i64 v5, AC.int IntKind.i64 v6, AC.int IntKind.i64 v7, AC.int IntKind.i64 (IntKind.i64.wrap (v8 + 1)), AC.int IntKind.i64 v9, AC.int IntKind.i64 v10, AC.int IntKind.i64 v11, AC.int IntKind.i64 v12, AC.int IntKind.i64 v13, AC.int IntKind.i64 v14, AC.int IntKind.i64 v15, AC.int IntKind.i64 v16, AC.int IntKind.i64 v17, AC.int IntKind.i64 v18, AC.int IntKind.i64 v19, AC.int IntKind.i64 v20, AC.int IntKind.i64 v21, AC.bool v22, AC.int IntKind.i64 v23, AC.bool v24, AC.int IntKind.i64 v25, AC.int IntKind.i64 v26, AC.int IntKind.i64 v27, AC.int IntKind.i64 v28, AC.int IntKind.i64 v29, AC.bool v30, AC.int IntKind.i64 v31, AC.int IntKind.i64 v32, AC.int IntKind.i64 v33, AC.int IntKind.i64 v34, AC.int IntKind.i64 v35, AC.int IntKind.i64 v36, AC.int IntKind.i64 v37, AC.int IntKind.i64 v38, AC.int IntKind.i64 v39, AC.int IntKind.i64 v40, AC.int IntKind.i64 v41, AC.int IntKind.i64 v42, AC.int IntKind.i64 (IntKind.i64.wrap (intOf (nth AC.dead o10 0) - v0)), AC.int IntKind.i64 (IntKind.i64.wrap (intOf (nth AC.dead o10 1) - v1)), AC.int IntKind.i64 0, AC.int IntKind.i64 (intOf (nth AC.dead o10 2))])
     else
      none
   else
    bif decide (v8 = (↑(0 + 1) : Int)) then
     (M_curve_scaled [AC.int IntKind.i64 v5, AC.int IntKind.i64 v6, AC.int IntKind.i64 v7]).bind fun o11 =>
     (M_curve_Plane [AC.int IntKind.i64 (intOf (nth AC.dead o11 0)), AC.int IntKind.i64 (intOf (nth AC.dead o11 1)), AC.int IntKind.i64 (intOf (nth AC.dead o11 2)), AC.int IntKind.i64 v17]).bind fun o12 =>
     bif decide (v8 = (↑0 : Int)) then
      some (0, [AC.int IntKind.i64 v0, AC.int IntKind.i64 v1, AC.int IntKind.i64 v2, AC.int IntKind.i64 v3, AC.int IntKind.i64 v4, AC.int IntKind.i64 v5, AC.int IntKind.i64 v6, AC.int IntKind.i64 v7, AC.int IntKind.i64 (IntKind.i64.wrap (v8 + 1)), AC.int IntKind.i64 v9, AC.int IntKind.i64 v10, AC.int IntKind.i64 v11, AC.int IntKind.i64 v12, AC.int IntKind.i64 v13, AC.int IntKind.i64 v14, AC.int IntKind.i64 v15, AC.int IntKind.i64 v16, AC.int IntKind.i64 v17, AC.int IntKind.i64 v18, AC.int IntKind.i64 v19, AC.int IntKind.i64 v20, AC.int IntKind.i64 v21, AC.bool v22, AC.int IntKind.i64 v23, AC.bool v24, AC.int IntKind.i64 v25, AC.int IntKind.i64 v26, AC.int IntKind.i64 v27, AC.int IntKind.i64 v28, AC.int IntKind.i64 v29, AC.bool v30, AC.int IntKind.i64 v31, AC.int IntKind.i64 v32, AC.int IntKind.i64 v33, AC.int IntKind.i64 v34, AC.int IntKind.i64 v35, AC.int IntKind.i64 v36, AC.int IntKind.i64 v37, AC.int IntKind.i64 v38, AC.int IntKind.i64 (IntKind.i64.wrap (intOf (nth AC.dead o12 0) - v0)), AC.int IntKind.i64 (IntKind.i64.wrap (intOf (nth AC.dead o12 1) - v1)), AC.int IntKind.i64 0, AC.int IntKind.i64 (intOf (nth AC.dead o12 2)), AC.int IntKind.i64 v43, AC.int IntKind.i64 v44, AC.int IntKind.i64 v45, AC.int IntKind.i64 v46])
     else
      bif decide (v8 = (↑(0 + 1) : Int)) then
       some (0, [AC.int IntKind.i64 v0, AC.int IntKind.i64 v1, AC.int IntKind.i64 v2, AC.int IntKind.i64 v3, AC.int IntKind.i64 v4, AC.int IntKind.i64 v5, AC.int IntKind.i64 v6, AC.int IntKind.i64 v7, AC.int IntKind.i64 (IntKind.i64.wrap (v8 + 1)), AC.int IntKind.i64 v9, AC.int IntKind.i64 v10, AC.int IntKind.i64 v11, AC.int IntKind.i64 v12, AC.int IntKind.i64 v13, AC.int IntKind.i64 v14, AC.int IntKind.i64 v15, AC.int IntKind.i64 v16, AC.int IntKind.i64 v17, AC.int IntKind.i64 v18, AC.int IntKind.i64 v19, AC.int IntKind.i64 v20, AC.int IntKind.i64 v21, AC.bool v22, AC.int IntKind.i64 v23, AC.bool v24, AC.int IntKind.i64 v25, AC.int IntKind.i64 v26, AC.int IntKind.i64 v27, AC.int IntKind.i64 v28, AC.int IntKind.i64 v29, AC.bool v30, AC.int IntKind.i64 v31, AC.int IntKind.i64 v32, AC.int IntKind.i64 v33, AC.int IntKind.i64 v34, AC.int IntKind.i64 v35, AC.int IntKind.i64 v36, AC.int IntKind.i64 v37, AC.int IntKind.i64 v38, AC.int IntKind.i64 v39, AC.int IntKind.i64 v40, AC.int IntKind.i64 v41, AC.int IntKind.i64 v42, AC.int IntKind.i64 (IntKind.i64.wrap (intOf (nth AC.dead o12 0) - v0)), AC.int IntKind.i64 (IntKind.i64.wrap (intOf (nth AC.dead o12 1) - v1)), AC.int IntKind.i64 0, AC.int IntKind.i64 (intOf (nth AC.dead o12 2))])
      else
       none
    else
     none
  else
   some (1, [AC.int IntKind.i64 v31, AC.int IntKind.i64 v32, AC.int IntKind.i64 v33, AC.int IntKind.i64 v34, AC.int IntKind.i64 v35, AC.int IntKind.i64 v36, AC.int IntKind.i64 v37, AC.int IntKind.i64 v38, AC.int IntKind.i64 v39, AC.int IntKind.i64 v40, AC.int IntKind.i64 v41, AC.int IntKind.i64 v42, AC.int IntKind.i64 v43, AC.int IntKind.i64 v44, AC.int IntKind.i64 v45, AC.int IntKind.i64 v46]) := by kernel_rfl
theorem mf_curve_ends_eq (M_curve_Plane : List AC → Option (List AC)) (M_curve_scaled : List AC → Option (List AC))  (N4 : List AC → Option (Nat × List AC)) (x0 : Int) (x1 : Int) (x2 : Int) (x3 : Int) (x4 : Int) (x5 : Int) (x6 : Int) (x7 : Int) (x8 : Int) (x9 : Int) (x10 : Int) (x11 : Int) (x12 : Int) (x13 : Bool) (x14 : Int) (x15 : Bool) (x16 : Int) (x17 : Int) (x18 : Int) (x19 : Int) (x20 : Int) (x21 : Bool) : mf_curve_ends M_curve_Plane M_curve_scaled  N4 [AC.int .i64 x0, AC.int .i64 x1, AC.int .i64 x2, AC.int .i64 x3, AC.int .i64 x4, AC.int .i64 x5, AC.int .i64 x6, AC.int .i64 x7, AC.int .i64 x8, AC.int .i64 x9, AC.int .i64 x10, AC.int .i64 x11, AC.int .i64 x12, AC.bool x13, AC.int .i64 x14, AC.bool x15, AC.int .i64 x16, AC.int .i64 x17, AC.int .i64 x18, AC.int .i64 x19, AC.int .i64 x20, AC.bool x21] =
  (M_curve_scaled [AC.int IntKind.i64 x9, AC.int IntKind.i64 x10, AC.int IntKind.i64 x11]).bind fun o13 =>
  (M_curve_Plane [AC.int IntKind.i64 (intOf (nth AC.dead o13 0)), AC.int IntKind.i64 (intOf (nth AC.dead o13 1)), AC.int IntKind.i64 (intOf (nth AC.dead o13 2)), AC.int IntKind.i64 x8]).bind fun o14 =>
  (N4 [AC.int IntKind.i64 (intOf (nth AC.dead o14 0)), AC.int IntKind.i64 (intOf (nth AC.dead o14 1)), AC.int IntKind.i64 x2, AC.int IntKind.i64 x3, AC.int IntKind.i64 x4, AC.int IntKind.i64 x5, AC.int IntKind.i64 x6, AC.int IntKind.i64 x7, AC.int IntKind.i64 0, AC.int IntKind.i64 x0, AC.int IntKind.i64 x1, AC.int IntKind.i64 x2, AC.int IntKind.i64 x3, AC.int IntKind.i64 x4, AC.int IntKind.i64 x5, AC.int IntKind.i64 x6, AC.int IntKind.i64 x7, AC.int IntKind.i64 x8, AC.int IntKind.i64 x9, AC.int IntKind.i64 x10, AC.int IntKind.i64 x11, AC.int IntKind.i64 x12, AC.bool x13, AC.int IntKind.i64 x14, AC.bool x15, AC.int IntKind.i64 x16, AC.int IntKind.i64 x17, AC.int IntKind.i64 x18, AC.int IntKind.i64 x19, AC.int IntKind.i64 x20, AC.bool x21, AC.int IntKind.i64 0, AC.int IntKind.i64 0, AC.int IntKind.i64 0, AC.int IntKind.i64 0, AC.int IntKind.i64 0, AC.int IntKind.i64 0, AC.int IntKind.i64 0, AC.int IntKind.i64 0, AC.int IntKind.i64 0, AC.int IntKind.i64 0, AC.int IntKind.i64 0, AC.int IntKind.i64 0, AC.int IntKind.i64 0, AC.int IntKind.i64 0, AC.int IntKind.i64 0, AC.int IntKind.i64 0]).bind fun o15 =>
  bif o15.fst.beq 1 then
   some [AC.int IntKind.i64 (intOf (nth AC.dead o15.snd 8)), AC.int IntKind.i64 (intOf (nth AC.dead o15.snd 9)), AC.int IntKind.i64 (intOf (nth AC.dead o15.snd 10)), AC.int IntKind.i64 (intOf (nth AC.dead o15.snd 11)), AC.int IntKind.i64 (intOf (nth AC.dead o15.snd 12)), AC.int IntKind.i64 (intOf (nth AC.dead o15.snd 13)), AC.int IntKind.i64 (intOf (nth AC.dead o15.snd 14)), AC.int IntKind.i64 (intOf (nth AC.dead o15.snd 15))]
  else
   none := by kernel_rfl
noncomputable def l_curve_ends_4 := loopC (st_curve_ends_4 m_curve_Plane m_curve_scaled )
noncomputable def m_curve_ends := mf_curve_ends m_curve_Plane m_curve_scaled  l_curve_ends_4
theorem sp_curve_ends : SpecOK Try.prog (C_curve_ends_0 m_curve_Plane m_curve_scaled) := specOK_of rfl ⟨r_curve_Plane, r_curve_scaled, trivial⟩
theorem r_curve_ends : RowOK Try.prog (119, spOf sig_curve_ends osig_curve_ends m_curve_ends) := row_of (C := (C_curve_ends_1 m_curve_Plane m_curve_scaled l_curve_ends_4)) (L := 64) (sig := sig_curve_ends) (osig := osig_curve_ends) (by kernel_rfl) ((FnOK.bare rfl rfl rfl).loop sp_curve_ends eqOk mixOk (by kernel_rfl) (by kernel_rfl)) sp_curve_ends eqOk mixOk (by kernel_rfl) (by kernel_rfl)
def sig_curve_within : Sk := { tmps := [TS.v true [CS.int .i64, CS.int .i64, CS.int .i64]], boxes := [], rows := [] }
def osig_curve_within : Sk := { tmps := [TS.v false [CS.bool]], boxes := [], rows := [] }
noncomputable def C_curve_within_0  : Cfg := { spec := lookS [], eqOk := eqAll, ownOff := ownOff, unroll := [2] }
noncomputable def mf_curve_within   : List AC → Option (List AC) := modelF Try.prog C_curve_within_0 64 117 sig_curve_within osig_curve_within
theorem mf_curve_within_eq   (x0 : Int) (x1 : Int) (x2 : Int) : mf_curve_within   [AC.int .i64 x0, AC.int .i64 x1, AC.int .i64 x2] =
  bif decide (x0 < -1048576) then
   some [AC.bool false]
  else
   bif decide (x0 > 1048576) then
    some [AC.bool false]
   else
    bif decide (x1 < -1048576) then
     some [AC.bool false]
    else
     bif decide (x1 > 1048576) then
      some [AC.bool false]
     else
      bif decide (x2 < -1048576) then
       some [AC.bool false]
      else
       bif decide (x2 > 1048576) then
        some [AC.bool false]
       else
        some [AC.bool true] := by kernel_rfl
noncomputable def m_curve_within := mf_curve_within  
theorem sp_curve_within : SpecOK Try.prog (C_curve_within_0 ) := specOK_of rfl trivial
theorem r_curve_within : RowOK Try.prog (117, spOf sig_curve_within osig_curve_within m_curve_within) := row_of (C := C_curve_within_0) (L := 64) (sig := sig_curve_within) (osig := osig_curve_within) (by kernel_rfl) (FnOK.bare rfl rfl rfl) sp_curve_within eqOk mixOk (by kernel_rfl) (by kernel_rfl)
def sig_curve_Valid : Sk := { tmps := [TS.v true [CS.int .i64, CS.int .i64, CS.int .i64, CS.int .i64, CS.int .i64, CS.int .i64, CS.int .i64, CS.int .i64, CS.int .i64, CS.int .i64, CS.int .i64, CS.int .i64, CS.int .i64, CS.bool, CS.int .i64, CS.bool, CS.int .i64, CS.int .i64, CS.int .i64, CS.int .i64, CS.int .i64, CS.bool]], boxes := [], rows := [] }
def osig_curve_Valid : Sk := { tmps := [TS.v false [CS.bool]], boxes := [], rows := [] }
noncomputable def C_curve_Valid_0 (M_curve_cross : List AC → Option (List AC)) (M_curve_near : List AC → Option (List AC)) (M_curve_dot : List AC → Option (List AC)) (M_curve_ends : List AC → Option (List AC)) (M_curve_axes : List AC → Option (List AC)) (M_curve_within : List AC → Option (List AC)) : Cfg := { spec := lookS [(122, spOf sig_curve_cross osig_curve_cross M_curve_cross), (121, spOf sig_curve_near osig_curve_near M_curve_near), (120, spOf sig_curve_dot osig_curve_dot M_curve_dot), (119, spOf sig_curve_ends osig_curve_ends M_curve_ends), (118, spOf sig_curve_axes osig_curve_axes M_curve_axes), (117, spOf sig_curve_within osig_curve_within M_curve_within)], eqOk := eqAll, ownOff := ownOff }
noncomputable def mf_curve_Valid (M_curve_cross : List AC → Option (List AC)) (M_curve_near : List AC → Option (List AC)) (M_curve_dot : List AC → Option (List AC)) (M_curve_ends : List AC → Option (List AC)) (M_curve_axes : List AC → Option (List AC)) (M_curve_within : List AC → Option (List AC))  : List AC → Option (List AC) := modelF Try.prog (C_curve_Valid_0 M_curve_cross M_curve_near M_curve_dot M_curve_ends M_curve_axes M_curve_within) 64 66 sig_curve_Valid osig_curve_Valid
theorem mf_curve_Valid_eq (M_curve_cross : List AC → Option (List AC)) (M_curve_near : List AC → Option (List AC)) (M_curve_dot : List AC → Option (List AC)) (M_curve_ends : List AC → Option (List AC)) (M_curve_axes : List AC → Option (List AC)) (M_curve_within : List AC → Option (List AC))  (x0 : Int) (x1 : Int) (x2 : Int) (x3 : Int) (x4 : Int) (x5 : Int) (x6 : Int) (x7 : Int) (x8 : Int) (x9 : Int) (x10 : Int) (x11 : Int) (x12 : Int) (x13 : Bool) (x14 : Int) (x15 : Bool) (x16 : Int) (x17 : Int) (x18 : Int) (x19 : Int) (x20 : Int) (x21 : Bool) : mf_curve_Valid M_curve_cross M_curve_near M_curve_dot M_curve_ends M_curve_axes M_curve_within  [AC.int .i64 x0, AC.int .i64 x1, AC.int .i64 x2, AC.int .i64 x3, AC.int .i64 x4, AC.int .i64 x5, AC.int .i64 x6, AC.int .i64 x7, AC.int .i64 x8, AC.int .i64 x9, AC.int .i64 x10, AC.int .i64 x11, AC.int .i64 x12, AC.bool x13, AC.int .i64 x14, AC.bool x15, AC.int .i64 x16, AC.int .i64 x17, AC.int .i64 x18, AC.int .i64 x19, AC.int .i64 x20, AC.bool x21] =
  bif decide (x0 < 1) then
   some [AC.bool false]
  else
   bif decide (x0 > 6) then
    some [AC.bool false]
   else
    (M_curve_within [AC.int IntKind.i64 x2, AC.int IntKind.i64 x3, AC.int IntKind.i64 x4]).bind fun o17 =>
    bif !boolOf (nth AC.dead o17 0) then
     some [AC.bool false]
    else
     (M_curve_within [AC.int IntKind.i64 x5, AC.int IntKind.i64 x6, AC.int IntKind.i64 x7]).bind fun o18 =>
     bif !boolOf (nth AC.dead o18 0) then
      some [AC.bool false]
     else
      bif x0 != 3 then
       some [AC.bool true]
      else
       (M_curve_axes [AC.int IntKind.i64 x8]).bind fun o19 =>
       bif !boolOf (nth AC.dead o19 3) then
        some [AC.bool false]
       else
        bif x12 != 1 then
         bif x12 != -1 then
          some [AC.bool false]
         else
          (M_curve_within [AC.int IntKind.i64 x9, AC.int IntKind.i64 x10, AC.int IntKind.i64 x11]).bind fun o20 =>
          bif !boolOf (nth AC.dead o20 0) then
           some [AC.bool false]
          else
           (M_curve_ends [AC.int IntKind.i64 x0, AC.int IntKind.i64 x1, AC.int IntKind.i64 x2, AC.int IntKind.i64 x3, AC.int IntKind.i64 x4, AC.int IntKind.i64 x5, AC.int IntKind.i64 x6, AC.int IntKind.i64 x7, AC.int IntKind.i64 x8, AC.int IntKind.i64 x9, AC.int IntKind.i64 x10, AC.int IntKind.i64 x11, AC.int IntKind.i64 x12, AC.bool x13, AC.int IntKind.i64 x14, AC.bool x15, AC.int IntKind.i64 x16, AC.int IntKind.i64 x17, AC.int IntKind.i64 x18, AC.int IntKind.i64 x19, AC.int IntKind.i64 x20, AC.bool x21]).bind fun o21 =>
           (M_curve_dot [AC.int IntKind.i64 (intOf (nth AC.dead o21 0)), AC.int IntKind.i64 (intOf (nth AC.dead o21 1)), AC.int IntKind.i64 (intOf (nth AC.dead o21 2)), AC.int IntKind.i64 (intOf (nth AC.dead o21 3)), AC.int IntKind.i64 (intOf (nth AC.dead o21 0)), AC.int IntKind.i64 (intOf (nth AC.dead o21 1)), AC.int IntKind.i64 (intOf (nth AC.dead o21 2)), AC.int IntKind.i64 (intOf (nth AC.dead o21 3))]).bind fun o22 =>
           (M_curve_dot [AC.int IntKind.i64 (intOf (nth AC.dead o21 4)), AC.int IntKind.i64 (intOf (nth AC.dead o21 5)), AC.int IntKind.i64 (intOf (nth AC.dead o21 6)), AC.int IntKind.i64 (intOf (nth AC.dead o21 7)), AC.int IntKind.i64 (intOf (nth AC.dead o21 4)), AC.int IntKind.i64 (intOf (nth AC.dead o21 5)), AC.int IntKind.i64 (intOf (nth AC.dead o21 6)), AC.int IntKind.i64 (intOf (nth AC.dead o21 7))]).bind fun o23 =>
           bif decide (intOf (nth AC.dead o22 0) < IntKind.i64.wrap (128 * 128)) then
            some [AC.bool false]
           else
            bif decide (intOf (nth AC.dead o23 0) < IntKind.i64.wrap (128 * 128)) then
             some [AC.bool false]
            else
             (M_curve_near [AC.int IntKind.i64 (IntKind.i64.wrap ((intOf (nth AC.dead o22 0)).tdiv 256)), AC.int IntKind.i64 (IntKind.i64.wrap ((intOf (nth AC.dead o23 0)).tdiv 256))]).bind fun o24 =>
             bif !boolOf (nth AC.dead o24 0) then
              some [AC.bool false]
             else
              bif x13 then
               bif intOf (nth AC.dead o21 0) == intOf (nth AC.dead o21 4) then
                some [AC.bool (intOf (nth AC.dead o21 1) == intOf (nth AC.dead o21 5))]
               else
                some [AC.bool false]
              else
               (M_curve_cross [AC.int IntKind.i64 (intOf (nth AC.dead o21 0)), AC.int IntKind.i64 (intOf (nth AC.dead o21 1)), AC.int IntKind.i64 (intOf (nth AC.dead o21 2)), AC.int IntKind.i64 (intOf (nth AC.dead o21 3)), AC.int IntKind.i64 (intOf (nth AC.dead o21 4)), AC.int IntKind.i64 (intOf (nth AC.dead o21 5)), AC.int IntKind.i64 (intOf (nth AC.dead o21 6)), AC.int IntKind.i64 (intOf (nth AC.dead o21 7))]).bind fun o25 =>
               bif intOf (nth AC.dead o25 0) != 0 then
                some [AC.bool true]
               else
                (M_curve_dot [AC.int IntKind.i64 (intOf (nth AC.dead o21 0)), AC.int IntKind.i64 (intOf (nth AC.dead o21 1)), AC.int IntKind.i64 (intOf (nth AC.dead o21 2)), AC.int IntKind.i64 (intOf (nth AC.dead o21 3)), AC.int IntKind.i64 (intOf (nth AC.dead o21 4)), AC.int IntKind.i64 (intOf (nth AC.dead o21 5)), AC.int IntKind.i64 (intOf (nth AC.dead o21 6)), AC.int IntKind.i64 (intOf (nth AC.dead o21 7))]).bind fun o26 =>
                some [AC.bool (decide (intOf (nth AC.dead o26 0) < 0))]
        else
         (M_curve_within [AC.int IntKind.i64 x9, AC.int IntKind.i64 x10, AC.int IntKind.i64 x11]).bind fun o27 =>
         bif !boolOf (nth AC.dead o27 0) then
          some [AC.bool false]
         else
          (M_curve_ends [AC.int IntKind.i64 x0, AC.int IntKind.i64 x1, AC.int IntKind.i64 x2, AC.int IntKind.i64 x3, AC.int IntKind.i64 x4, AC.int IntKind.i64 x5, AC.int IntKind.i64 x6, AC.int IntKind.i64 x7, AC.int IntKind.i64 x8, AC.int IntKind.i64 x9, AC.int IntKind.i64 x10, AC.int IntKind.i64 x11, AC.int IntKind.i64 x12, AC.bool x13, AC.int IntKind.i64 x14, AC.bool x15, AC.int IntKind.i64 x16, AC.int IntKind.i64 x17, AC.int IntKind.i64 x18, AC.int IntKind.i64 x19, AC.int IntKind.i64 x20, AC.bool x21]).bind fun o28 =>
          (M_curve_dot [AC.int IntKind.i64 (intOf (nth AC.dead o28 0)), AC.int IntKind.i64 (intOf (nth AC.dead o28 1)), AC.int IntKind.i64 (intOf (nth AC.dead o28 2)), AC.int IntKind.i64 (intOf (nth AC.dead o28 3)), AC.int IntKind.i64 (intOf (nth AC.dead o28 0)), AC.int IntKind.i64 (intOf (nth AC.dead o28 1)), AC.int IntKind.i64 (intOf (nth AC.dead o28 2)), AC.int IntKind.i64 (intOf (nth AC.dead o28 3))]).bind fun o29 =>
          (M_curve_dot [AC.int IntKind.i64 (intOf (nth AC.dead o28 4)), AC.int IntKind.i64 (intOf (nth AC.dead o28 5)), AC.int IntKind.i64 (intOf (nth AC.dead o28 6)), AC.int IntKind.i64 (intOf (nth AC.dead o28 7)), AC.int IntKind.i64 (intOf (nth AC.dead o28 4)), AC.int IntKind.i64 (intOf (nth AC.dead o28 5)), AC.int IntKind.i64 (intOf (nth AC.dead o28 6)), AC.int IntKind.i64 (intOf (nth AC.dead o28 7))]).bind fun o30 =>
          bif decide (intOf (nth AC.dead o29 0) < IntKind.i64.wrap (128 * 128)) then
           some [AC.bool false]
          else
           bif decide (intOf (nth AC.dead o30 0) < IntKind.i64.wrap (128 * 128)) then
            some [AC.bool false]
           else
            (M_curve_near [AC.int IntKind.i64 (IntKind.i64.wrap ((intOf (nth AC.dead o29 0)).tdiv 256)), AC.int IntKind.i64 (IntKind.i64.wrap ((intOf (nth AC.dead o30 0)).tdiv 256))]).bind fun o31 =>
            bif !boolOf (nth AC.dead o31 0) then
             some [AC.bool false]
            else
             bif x13 then
              bif intOf (nth AC.dead o28 0) == intOf (nth AC.dead o28 4) then
               some [AC.bool (intOf (nth AC.dead o28 1) == intOf (nth AC.dead o28 5))]
              else
               some [AC.bool false]
             else
              (M_curve_cross [AC.int IntKind.i64 (intOf (nth AC.dead o28 0)), AC.int IntKind.i64 (intOf (nth AC.dead o28 1)), AC.int IntKind.i64 (intOf (nth AC.dead o28 2)), AC.int IntKind.i64 (intOf (nth AC.dead o28 3)), AC.int IntKind.i64 (intOf (nth AC.dead o28 4)), AC.int IntKind.i64 (intOf (nth AC.dead o28 5)), AC.int IntKind.i64 (intOf (nth AC.dead o28 6)), AC.int IntKind.i64 (intOf (nth AC.dead o28 7))]).bind fun o32 =>
              bif intOf (nth AC.dead o32 0) != 0 then
               some [AC.bool true]
              else
               (M_curve_dot [AC.int IntKind.i64 (intOf (nth AC.dead o28 0)), AC.int IntKind.i64 (intOf (nth AC.dead o28 1)), AC.int IntKind.i64 (intOf (nth AC.dead o28 2)), AC.int IntKind.i64 (intOf (nth AC.dead o28 3)), AC.int IntKind.i64 (intOf (nth AC.dead o28 4)), AC.int IntKind.i64 (intOf (nth AC.dead o28 5)), AC.int IntKind.i64 (intOf (nth AC.dead o28 6)), AC.int IntKind.i64 (intOf (nth AC.dead o28 7))]).bind fun o33 =>
               some [AC.bool (decide (intOf (nth AC.dead o33 0) < 0))] := by kernel_rfl
noncomputable def m_curve_Valid := mf_curve_Valid m_curve_cross m_curve_near m_curve_dot m_curve_ends m_curve_axes m_curve_within 
theorem sp_curve_Valid : SpecOK Try.prog (C_curve_Valid_0 m_curve_cross m_curve_near m_curve_dot m_curve_ends m_curve_axes m_curve_within) := specOK_of rfl ⟨r_curve_cross, r_curve_near, r_curve_dot, r_curve_ends, r_curve_axes, r_curve_within, trivial⟩
theorem r_curve_Valid : RowOK Try.prog (66, spOf sig_curve_Valid osig_curve_Valid m_curve_Valid) := row_of (C := (C_curve_Valid_0 m_curve_cross m_curve_near m_curve_dot m_curve_ends m_curve_axes m_curve_within)) (L := 64) (sig := sig_curve_Valid) (osig := osig_curve_Valid) (by kernel_rfl) (FnOK.bare rfl rfl rfl) sp_curve_Valid eqOk mixOk (by kernel_rfl) (by kernel_rfl)
def sig_contour_dot : Sk := { tmps := [TS.v true [CS.int .i64, CS.int .i64], TS.v true [CS.int .i64, CS.int .i64]], boxes := [], rows := [] }
def osig_contour_dot : Sk := { tmps := [TS.v false [CS.int .i64]], boxes := [], rows := [] }
noncomputable def C_contour_dot_0  : Cfg := { spec := lookS [], eqOk := eqAll, ownOff := ownOff }
noncomputable def mf_contour_dot   : List AC → Option (List AC) := modelF Try.prog C_contour_dot_0 64 69 sig_contour_dot osig_contour_dot
theorem mf_contour_dot_eq   (x0 : Int) (x1 : Int) (x2 : Int) (x3 : Int) : mf_contour_dot   [AC.int .i64 x0, AC.int .i64 x1, AC.int .i64 x2, AC.int .i64 x3] =
  some [AC.int IntKind.i64 (IntKind.i64.wrap (IntKind.i64.wrap (x0 * x2) + IntKind.i64.wrap (x1 * x3)))] := by kernel_rfl
noncomputable def m_contour_dot := mf_contour_dot  
theorem sp_contour_dot : SpecOK Try.prog (C_contour_dot_0 ) := specOK_of rfl trivial
theorem r_contour_dot : RowOK Try.prog (69, spOf sig_contour_dot osig_contour_dot m_contour_dot) := row_of (C := C_contour_dot_0) (L := 64) (sig := sig_contour_dot) (osig := osig_contour_dot) (by kernel_rfl) (FnOK.bare rfl rfl rfl) sp_contour_dot eqOk mixOk (by kernel_rfl) (by kernel_rfl)
def sig_contour_cross : Sk := { tmps := [TS.v true [CS.int .i64, CS.int .i64], TS.v true [CS.int .i64, CS.int .i64]], boxes := [], rows := [] }
def osig_contour_cross : Sk := { tmps := [TS.v false [CS.int .i64]], boxes := [], rows := [] }
noncomputable def C_contour_cross_0  : Cfg := { spec := lookS [], eqOk := eqAll, ownOff := ownOff }
noncomputable def mf_contour_cross   : List AC → Option (List AC) := modelF Try.prog C_contour_cross_0 64 123 sig_contour_cross osig_contour_cross
theorem mf_contour_cross_eq   (x0 : Int) (x1 : Int) (x2 : Int) (x3 : Int) : mf_contour_cross   [AC.int .i64 x0, AC.int .i64 x1, AC.int .i64 x2, AC.int .i64 x3] =
  some [AC.int IntKind.i64 (IntKind.i64.wrap (IntKind.i64.wrap (x0 * x3) - IntKind.i64.wrap (x1 * x2)))] := by kernel_rfl
noncomputable def m_contour_cross := mf_contour_cross  
theorem sp_contour_cross : SpecOK Try.prog (C_contour_cross_0 ) := specOK_of rfl trivial
theorem r_contour_cross : RowOK Try.prog (123, spOf sig_contour_cross osig_contour_cross m_contour_cross) := row_of (C := C_contour_cross_0) (L := 64) (sig := sig_contour_cross) (osig := osig_contour_cross) (by kernel_rfl) (FnOK.bare rfl rfl rfl) sp_contour_cross eqOk mixOk (by kernel_rfl) (by kernel_rfl)
def sig_contour_near : Sk := { tmps := [TS.v true [CS.int .i64, CS.int .i64], TS.v true [CS.int .i64, CS.int .i64], TS.v false [CS.int .i64]], boxes := [], rows := [] }
def osig_contour_near : Sk := { tmps := [TS.v false [CS.bool]], boxes := [], rows := [] }
noncomputable def C_contour_near_0 (M_wide_Cmp : List AC → Option (List AC)) (M_contour_dot : List AC → Option (List AC)) (M_contour_cross : List AC → Option (List AC)) : Cfg := { spec := lookS [(57, spOf sig_wide_Cmp osig_wide_Cmp M_wide_Cmp), (69, spOf sig_contour_dot osig_contour_dot M_contour_dot), (123, spOf sig_contour_cross osig_contour_cross M_contour_cross)], eqOk := eqAll, ownOff := ownOff }
noncomputable def mf_contour_near (M_wide_Cmp : List AC → Option (List AC)) (M_contour_dot : List AC → Option (List AC)) (M_contour_cross : List AC → Option (List AC))  : List AC → Option (List AC) := modelF Try.prog (C_contour_near_0 M_wide_Cmp M_contour_dot M_contour_cross) 64 72 sig_contour_near osig_contour_near
theorem mf_contour_near_eq (M_wide_Cmp : List AC → Option (List AC)) (M_contour_dot : List AC → Option (List AC)) (M_contour_cross : List AC → Option (List AC))  (x0 : Int) (x1 : Int) (x2 : Int) (x3 : Int) (x4 : Int) : mf_contour_near M_wide_Cmp M_contour_dot M_contour_cross  [AC.int .i64 x0, AC.int .i64 x1, AC.int .i64 x2, AC.int .i64 x3, AC.int .i64 x4] =
  (M_contour_cross [AC.int IntKind.i64 x0, AC.int IntKind.i64 x1, AC.int IntKind.i64 x2, AC.int IntKind.i64 x3]).bind fun o4 =>
  (M_contour_dot [AC.int IntKind.i64 x0, AC.int IntKind.i64 x1, AC.int IntKind.i64 x2, AC.int IntKind.i64 x3]).bind fun o5 =>
  bif decide (intOf (nth AC.dead o5 0) ≥ 0) then
   (M_contour_dot [AC.int IntKind.i64 x0, AC.int IntKind.i64 x1, AC.int IntKind.i64 x0, AC.int IntKind.i64 x1]).bind fun o6 =>
   (M_wide_Cmp [AC.int IntKind.i64 (intOf (nth AC.dead o4 0)), AC.int IntKind.i64 (intOf (nth AC.dead o4 0)), AC.int IntKind.i64 (IntKind.i64.wrap (x4 * x4)), AC.int IntKind.i64 (intOf (nth AC.dead o6 0))]).bind fun o7 =>
   some [AC.bool (decide (intOf (nth AC.dead o7 0) ≤ 0))]
  else
   some [AC.bool false] := by kernel_rfl
noncomputable def m_contour_near := mf_contour_near m_wide_Cmp m_contour_dot m_contour_cross 
theorem sp_contour_near : SpecOK Try.prog (C_contour_near_0 m_wide_Cmp m_contour_dot m_contour_cross) := specOK_of rfl ⟨r_wide_Cmp, r_contour_dot, r_contour_cross, trivial⟩
theorem r_contour_near : RowOK Try.prog (72, spOf sig_contour_near osig_contour_near m_contour_near) := row_of (C := (C_contour_near_0 m_wide_Cmp m_contour_dot m_contour_cross)) (L := 64) (sig := sig_contour_near) (osig := osig_contour_near) (by kernel_rfl) (FnOK.bare rfl rfl rfl) sp_contour_near eqOk mixOk (by kernel_rfl) (by kernel_rfl)
def sig_contour_passed : Sk := { tmps := [TS.v true [CS.int .i64, CS.int .i64], TS.v true [CS.int .i64, CS.int .i64], TS.v true [CS.int .i64, CS.int .i64], TS.v false [CS.int .i64]], boxes := [], rows := [] }
def osig_contour_passed : Sk := { tmps := [TS.v false [CS.bool]], boxes := [], rows := [] }
noncomputable def C_contour_passed_0 (M_contour_dot : List AC → Option (List AC)) (M_contour_cross : List AC → Option (List AC)) : Cfg := { spec := lookS [(69, spOf sig_contour_dot osig_contour_dot M_contour_dot), (123, spOf sig_contour_cross osig_contour_cross M_contour_cross)], eqOk := eqAll, ownOff := ownOff }
noncomputable def mf_contour_passed (M_contour_dot : List AC → Option (List AC)) (M_contour_cross : List AC → Option (List AC))  : List AC → Option (List AC) := modelF Try.prog (C_contour_passed_0 M_contour_dot M_contour_cross) 64 71 sig_contour_passed osig_contour_passed
theorem mf_contour_passed_eq (M_contour_dot : List AC → Option (List AC)) (M_contour_cross : List AC → Option (List AC))  (x0 : Int) (x1 : Int) (x2 : Int) (x3 : Int) (x4 : Int) (x5 : Int) (x6 : Int) : mf_contour_passed M_contour_dot M_contour_cross  [AC.int .i64 x0, AC.int .i64 x1, AC.int .i64 x2, AC.int .i64 x3, AC.int .i64 x4, AC.int .i64 x5, AC.int .i64 x6] =
  (M_contour_cross [AC.int IntKind.i64 x0, AC.int IntKind.i64 x1, AC.int IntKind.i64 x2, AC.int IntKind.i64 x3]).bind fun o9 =>
  bif decide (IntKind.i64.wrap (intOf (nth AC.dead o9 0) * x6) > 0) then
   (M_contour_cross [AC.int IntKind.i64 x0, AC.int IntKind.i64 x1, AC.int IntKind.i64 x4, AC.int IntKind.i64 x5]).bind fun o10 =>
   bif decide (IntKind.i64.wrap (intOf (nth AC.dead o10 0) * x6) ≥ 0) then
    (M_contour_cross [AC.int IntKind.i64 x4, AC.int IntKind.i64 x5, AC.int IntKind.i64 x2, AC.int IntKind.i64 x3]).bind fun o11 =>
    some [AC.bool (decide (IntKind.i64.wrap (intOf (nth AC.dead o11 0) * x6) ≥ 0))]
   else
    some [AC.bool false]
  else
   bif IntKind.i64.wrap (intOf (nth AC.dead o9 0) * x6) == 0 then
    (M_contour_dot [AC.int IntKind.i64 x0, AC.int IntKind.i64 x1, AC.int IntKind.i64 x2, AC.int IntKind.i64 x3]).bind fun o12 =>
    bif decide (intOf (nth AC.dead o12 0) < 0) then
     (M_contour_cross [AC.int IntKind.i64 x0, AC.int IntKind.i64 x1, AC.int IntKind.i64 x4, AC.int IntKind.i64 x5]).bind fun o13 =>
     some [AC.bool (decide (IntKind.i64.wrap (intOf (nth AC.dead o13 0) * x6) ≥ 0))]
    else
     (M_contour_cross [AC.int IntKind.i64 x2, AC.int IntKind.i64 x3, AC.int IntKind.i64 x4, AC.int IntKind.i64 x5]).bind fun o14 =>
     bif decide (IntKind.i64.wrap (intOf (nth AC.dead o14 0) * x6) ≤ 0) then
      some [AC.bool true]
     else
      (M_contour_cross [AC.int IntKind.i64 x4, AC.int IntKind.i64 x5, AC.int IntKind.i64 x0, AC.int IntKind.i64 x1]).bind fun o15 =>
      some [AC.bool (decide (IntKind.i64.wrap (intOf (nth AC.dead o15 0) * x6) ≤ 0))]
   else
    (M_contour_cross [AC.int IntKind.i64 x2, AC.int IntKind.i64 x3, AC.int IntKind.i64 x4, AC.int IntKind.i64 x5]).bind fun o16 =>
    bif decide (IntKind.i64.wrap (intOf (nth AC.dead o16 0) * x6) ≤ 0) then
     some [AC.bool true]
    else
     (M_contour_cross [AC.int IntKind.i64 x4, AC.int IntKind.i64 x5, AC.int IntKind.i64 x0, AC.int IntKind.i64 x1]).bind fun o17 =>
     some [AC.bool (decide (IntKind.i64.wrap (intOf (nth AC.dead o17 0) * x6) ≤ 0))] := by kernel_rfl
noncomputable def m_contour_passed := mf_contour_passed m_contour_dot m_contour_cross 
theorem sp_contour_passed : SpecOK Try.prog (C_contour_passed_0 m_contour_dot m_contour_cross) := specOK_of rfl ⟨r_contour_dot, r_contour_cross, trivial⟩
theorem r_contour_passed : RowOK Try.prog (71, spOf sig_contour_passed osig_contour_passed m_contour_passed) := row_of (C := (C_contour_passed_0 m_contour_dot m_contour_cross)) (L := 64) (sig := sig_contour_passed) (osig := osig_contour_passed) (by kernel_rfl) (FnOK.bare rfl rfl rfl) sp_contour_passed eqOk mixOk (by kernel_rfl) (by kernel_rfl)
def sig_contour_above : Sk := { tmps := [TS.v false [CS.int .i64], TS.v false [CS.int .i64], TS.v false [CS.int .i64]], boxes := [], rows := [] }
def osig_contour_above : Sk := { tmps := [TS.v false [CS.bool]], boxes := [], rows := [] }
noncomputable def C_contour_above_0 (M_wide_Cmp : List AC → Option (List AC)) : Cfg := { spec := lookS [(57, spOf sig_wide_Cmp osig_wide_Cmp M_wide_Cmp)], eqOk := eqAll, ownOff := ownOff }
noncomputable def mf_contour_above (M_wide_Cmp : List AC → Option (List AC))  : List AC → Option (List AC) := modelF Try.prog (C_contour_above_0 M_wide_Cmp) 64 70 sig_contour_above osig_contour_above
theorem mf_contour_above_eq (M_wide_Cmp : List AC → Option (List AC))  (x0 : Int) (x1 : Int) (x2 : Int) : mf_contour_above M_wide_Cmp  [AC.int .i64 x0, AC.int .i64 x1, AC.int .i64 x2] =
  bif decide (IntKind.i64.wrap (IntKind.i64.wrap (x0 - x1) - IntKind.i64.wrap (x2 * x2)) ≤ 0) then
   some [AC.bool true]
  else
   (M_wide_Cmp [AC.int IntKind.i64 (IntKind.i64.wrap (IntKind.i64.wrap (x0 - x1) - IntKind.i64.wrap (x2 * x2))), AC.int IntKind.i64 (IntKind.i64.wrap (IntKind.i64.wrap (x0 - x1) - IntKind.i64.wrap (x2 * x2))), AC.int IntKind.i64 (IntKind.i64.wrap (IntKind.i64.wrap (4 * x2) * x2)), AC.int IntKind.i64 x1]).bind fun o1 =>
   some [AC.bool (decide (intOf (nth AC.dead o1 0) ≤ 0))] := by kernel_rfl
noncomputable def m_contour_above := mf_contour_above m_wide_Cmp 
theorem sp_contour_above : SpecOK Try.prog (C_contour_above_0 m_wide_Cmp) := specOK_of rfl ⟨r_wide_Cmp, trivial⟩
theorem r_contour_above : RowOK Try.prog (70, spOf sig_contour_above osig_contour_above m_contour_above) := row_of (C := (C_contour_above_0 m_wide_Cmp)) (L := 64) (sig := sig_contour_above) (osig := osig_contour_above) (by kernel_rfl) (FnOK.bare rfl rfl rfl) sp_contour_above eqOk mixOk (by kernel_rfl) (by kernel_rfl)
def sig_contour_OnArc : Sk := { tmps := [TS.v true [CS.int .i64, CS.int .i64, CS.int .i64, CS.int .i64, CS.int .i64, CS.int .i64, CS.int .i64, CS.int .i64, CS.int .i64, CS.int .i64, CS.int .i64, CS.int .i64, CS.int .i64, CS.bool, CS.int .i64, CS.bool, CS.int .i64, CS.int .i64, CS.int .i64, CS.int .i64, CS.int .i64, CS.bool], TS.v true [CS.int .i64, CS.int .i64, CS.int .i64], TS.v false [CS.int .i64]], boxes := [], rows := [] }
def osig_contour_OnArc : Sk := { tmps := [TS.v false [CS.bool]], boxes := [], rows := [] }
noncomputable def C_contour_OnArc_0 (M_contour_near : List AC → Option (List AC)) (M_contour_passed : List AC → Option (List AC)) (M_contour_above : List AC → Option (List AC)) (M_contour_dot : List AC → Option (List AC)) (M_curve_Plane : List AC → Option (List AC)) (M_contour_scaled : List AC → Option (List AC)) (M_curve_Valid : List AC → Option (List AC)) : Cfg := { spec := lookS [(72, spOf sig_contour_near osig_contour_near M_contour_near), (71, spOf sig_contour_passed osig_contour_passed M_contour_passed), (70, spOf sig_contour_above osig_contour_above M_contour_above), (69, spOf sig_contour_dot osig_contour_dot M_contour_dot), (67, spOf sig_curve_Plane osig_curve_Plane M_curve_Plane), (68, spOf sig_contour_scaled osig_contour_scaled M_contour_scaled), (66, spOf sig_curve_Valid osig_curve_Valid M_curve_Valid)], eqOk := eqAll, ownOff := ownOff }
noncomputable def mf_contour_OnArc (M_contour_near : List AC → Option (List AC)) (M_contour_passed : List AC → Option (List AC)) (M_contour_above : List AC → Option (List AC)) (M_contour_dot : List AC → Option (List AC)) (M_curve_Plane : List AC → Option (List AC)) (M_contour_scaled : List AC → Option (List AC)) (M_curve_Valid : List AC → Option (List AC))  : List AC → Option (List AC) := modelF Try.prog (C_contour_OnArc_0 M_contour_near M_contour_passed M_contour_above M_contour_dot M_curve_Plane M_contour_scaled M_curve_Valid) 64 26 sig_contour_OnArc osig_contour_OnArc
theorem mf_contour_OnArc_eq (M_contour_near : List AC → Option (List AC)) (M_contour_passed : List AC → Option (List AC)) (M_contour_above : List AC → Option (List AC)) (M_contour_dot : List AC → Option (List AC)) (M_curve_Plane : List AC → Option (List AC)) (M_contour_scaled : List AC → Option (List AC)) (M_curve_Valid : List AC → Option (List AC))  (x0 : Int) (x1 : Int) (x2 : Int) (x3 : Int) (x4 : Int) (x5 : Int) (x6 : Int) (x7 : Int) (x8 : Int) (x9 : Int) (x10 : Int) (x11 : Int) (x12 : Int) (x13 : Bool) (x14 : Int) (x15 : Bool) (x16 : Int) (x17 : Int) (x18 : Int) (x19 : Int) (x20 : Int) (x21 : Bool) (x22 : Int) (x23 : Int) (x24 : Int) (x25 : Int) : mf_contour_OnArc M_contour_near M_contour_passed M_contour_above M_contour_dot M_curve_Plane M_contour_scaled M_curve_Valid  [AC.int .i64 x0, AC.int .i64 x1, AC.int .i64 x2, AC.int .i64 x3, AC.int .i64 x4, AC.int .i64 x5, AC.int .i64 x6, AC.int .i64 x7, AC.int .i64 x8, AC.int .i64 x9, AC.int .i64 x10, AC.int .i64 x11, AC.int .i64 x12, AC.bool x13, AC.int .i64 x14, AC.bool x15, AC.int .i64 x16, AC.int .i64 x17, AC.int .i64 x18, AC.int .i64 x19, AC.int .i64 x20, AC.bool x21, AC.int .i64 x22, AC.int .i64 x23, AC.int .i64 x24, AC.int .i64 x25] =
  bif x0 != 3 then
   some [AC.bool false]
  else
   (M_curve_Valid [AC.int IntKind.i64 x0, AC.int IntKind.i64 x1, AC.int IntKind.i64 x2, AC.int IntKind.i64 x3, AC.int IntKind.i64 x4, AC.int IntKind.i64 x5, AC.int IntKind.i64 x6, AC.int IntKind.i64 x7, AC.int IntKind.i64 x8, AC.int IntKind.i64 x9, AC.int IntKind.i64 x10, AC.int IntKind.i64 x11, AC.int IntKind.i64 x12, AC.bool x13, AC.int IntKind.i64 x14, AC.bool x15, AC.int IntKind.i64 x16, AC.int IntKind.i64 x17, AC.int IntKind.i64 x18, AC.int IntKind.i64 x19, AC.int IntKind.i64 x20, AC.bool x21]).bind fun o19 =>
   bif !boolOf (nth AC.dead o19 0) then
    some [AC.bool false]
   else
    (M_contour_scaled [AC.int IntKind.i64 x9, AC.int IntKind.i64 x10, AC.int IntKind.i64 x11]).bind fun o20 =>
    (M_curve_Plane [AC.int IntKind.i64 (intOf (nth AC.dead o20 0)), AC.int IntKind.i64 (intOf (nth AC.dead o20 1)), AC.int IntKind.i64 (intOf (nth AC.dead o20 2)), AC.int IntKind.i64 x8]).bind fun o21 =>
    (M_contour_scaled [AC.int IntKind.i64 x2, AC.int IntKind.i64 x3, AC.int IntKind.i64 x4]).bind fun o22 =>
    (M_curve_Plane [AC.int IntKind.i64 (intOf (nth AC.dead o22 0)), AC.int IntKind.i64 (intOf (nth AC.dead o22 1)), AC.int IntKind.i64 (intOf (nth AC.dead o22 2)), AC.int IntKind.i64 x8]).bind fun o23 =>
    (M_contour_scaled [AC.int IntKind.i64 x5, AC.int IntKind.i64 x6, AC.int IntKind.i64 x7]).bind fun o24 =>
    (M_curve_Plane [AC.int IntKind.i64 (intOf (nth AC.dead o24 0)), AC.int IntKind.i64 (intOf (nth AC.dead o24 1)), AC.int IntKind.i64 (intOf (nth AC.dead o24 2)), AC.int IntKind.i64 x8]).bind fun o25 =>
    (M_curve_Plane [AC.int IntKind.i64 x22, AC.int IntKind.i64 x23, AC.int IntKind.i64 x24, AC.int IntKind.i64 x8]).bind fun o26 =>
    (M_contour_dot [AC.int IntKind.i64 (IntKind.i64.wrap (intOf (nth AC.dead o23 0) - intOf (nth AC.dead o21 0))), AC.int IntKind.i64 (IntKind.i64.wrap (intOf (nth AC.dead o23 1) - intOf (nth AC.dead o21 1))), AC.int IntKind.i64 (IntKind.i64.wrap (intOf (nth AC.dead o23 0) - intOf (nth AC.dead o21 0))), AC.int IntKind.i64 (IntKind.i64.wrap (intOf (nth AC.dead o23 1) - intOf (nth AC.dead o21 1)))]).bind fun o27 =>
    (M_contour_dot [AC.int IntKind.i64 (IntKind.i64.wrap (intOf (nth AC.dead o25 0) - intOf (nth AC.dead o21 0))), AC.int IntKind.i64 (IntKind.i64.wrap (intOf (nth AC.dead o25 1) - intOf (nth AC.dead o21 1))), AC.int IntKind.i64 (IntKind.i64.wrap (intOf (nth AC.dead o25 0) - intOf (nth AC.dead o21 0))), AC.int IntKind.i64 (IntKind.i64.wrap (intOf (nth AC.dead o25 1) - intOf (nth AC.dead o21 1)))]).bind fun o28 =>
    (M_contour_dot [AC.int IntKind.i64 (IntKind.i64.wrap (intOf (nth AC.dead o23 0) - intOf (nth AC.dead o21 0))), AC.int IntKind.i64 (IntKind.i64.wrap (intOf (nth AC.dead o23 1) - intOf (nth AC.dead o21 1))), AC.int IntKind.i64 (IntKind.i64.wrap (intOf (nth AC.dead o23 0) - intOf (nth AC.dead o21 0))), AC.int IntKind.i64 (IntKind.i64.wrap (intOf (nth AC.dead o23 1) - intOf (nth AC.dead o21 1)))]).bind fun o29 =>
    (M_contour_dot [AC.int IntKind.i64 (IntKind.i64.wrap (intOf (nth AC.dead o25 0) - intOf (nth AC.dead o21 0))), AC.int IntKind.i64 (IntKind.i64.wrap (intOf (nth AC.dead o25 1) - intOf (nth AC.dead o21 1))), AC.int IntKind.i64 (IntKind.i64.wrap (intOf (nth AC.dead o25 0) - intOf (nth AC.dead o21 0))), AC.int IntKind.i64 (IntKind.i64.wrap (intOf (nth AC.dead o25 1) - intOf (nth AC.dead o21 1)))]).bind fun o30 =>
    (M_contour_dot [AC.int IntKind.i64 (IntKind.i64.wrap (intOf (nth AC.dead o26 0) - intOf (nth AC.dead o21 0))), AC.int IntKind.i64 (IntKind.i64.wrap (intOf (nth AC.dead o26 1) - intOf (nth AC.dead o21 1))), AC.int IntKind.i64 (IntKind.i64.wrap (intOf (nth AC.dead o26 0) - intOf (nth AC.dead o21 0))), AC.int IntKind.i64 (IntKind.i64.wrap (intOf (nth AC.dead o26 1) - intOf (nth AC.dead o21 1)))]).bind fun o31 =>
    (M_contour_above [AC.int IntKind.i64 (mn (intOf (nth AC.dead o27 0)) (intOf (nth AC.dead o28 0))), AC.int IntKind.i64 (intOf (nth AC.dead o31 0)), AC.int IntKind.i64 x25]).bind fun o32 =>
    bif !boolOf (nth AC.dead o32 0) then
     some [AC.bool false]
    else
     (M_contour_dot [AC.int IntKind.i64 (IntKind.i64.wrap (intOf (nth AC.dead o26 0) - intOf (nth AC.dead o21 0))), AC.int IntKind.i64 (IntKind.i64.wrap (intOf (nth AC.dead o26 1) - intOf (nth AC.dead o21 1))), AC.int IntKind.i64 (IntKind.i64.wrap (intOf (nth AC.dead o26 0) - intOf (nth AC.dead o21 0))), AC.int IntKind.i64 (IntKind.i64.wrap (intOf (nth AC.dead o26 1) - intOf (nth AC.dead o21 1)))]).bind fun o33 =>
     (M_contour_above [AC.int IntKind.i64 (intOf (nth AC.dead o33 0)), AC.int IntKind.i64 (mx (intOf (nth AC.dead o29 0)) (intOf (nth AC.dead o30 0))), AC.int IntKind.i64 x25]).bind fun o34 =>
     bif !boolOf (nth AC.dead o34 0) then
      some [AC.bool false]
     else
      bif decide (intOf (nth AC.dead o26 2) < IntKind.i64.wrap (mn (intOf (nth AC.dead o23 2)) (intOf (nth AC.dead o25 2)) - x25)) then
       some [AC.bool false]
      else
       bif decide (intOf (nth AC.dead o26 2) > IntKind.i64.wrap (mx (intOf (nth AC.dead o23 2)) (intOf (nth AC.dead o25 2)) + x25)) then
        some [AC.bool false]
       else
        bif x13 then
         some [AC.bool true]
        else
         (M_contour_passed [AC.int IntKind.i64 (IntKind.i64.wrap (intOf (nth AC.dead o23 0) - intOf (nth AC.dead o21 0))), AC.int IntKind.i64 (IntKind.i64.wrap (intOf (nth AC.dead o23 1) - intOf (nth AC.dead o21 1))), AC.int IntKind.i64 (IntKind.i64.wrap (intOf (nth AC.dead o25 0) - intOf (nth AC.dead o21 0))), AC.int IntKind.i64 (IntKind.i64.wrap (intOf (nth AC.dead o25 1) - intOf (nth AC.dead o21 1))), AC.int IntKind.i64 (IntKind.i64.wrap (intOf (nth AC.dead o26 0) - intOf (nth AC.dead o21 0))), AC.int IntKind.i64 (IntKind.i64.wrap (intOf (nth AC.dead o26 1) - intOf (nth AC.dead o21 1))), AC.int IntKind.i64 x12]).bind fun o35 =>
         bif boolOf (nth AC.dead o35 0) then
          some [AC.bool true]
         else
          (M_contour_near [AC.int IntKind.i64 (IntKind.i64.wrap (intOf (nth AC.dead o23 0) - intOf (nth AC.dead o21 0))), AC.int IntKind.i64 (IntKind.i64.wrap (intOf (nth AC.dead o23 1) - intOf (nth AC.dead o21 1))), AC.int IntKind.i64 (IntKind.i64.wrap (intOf (nth AC.dead o26 0) - intOf (nth AC.dead o21 0))), AC.int IntKind.i64 (IntKind.i64.wrap (intOf (nth AC.dead o26 1) - intOf (nth AC.dead o21 1))), AC.int IntKind.i64 x25]).bind fun o36 =>
          bif boolOf (nth AC.dead o36 0) then
           some [AC.bool true]
          else
           (M_contour_near [AC.int IntKind.i64 (IntKind.i64.wrap (intOf (nth AC.dead o25 0) - intOf (nth AC.dead o21 0))), AC.int IntKind.i64 (IntKind.i64.wrap (intOf (nth AC.dead o25 1) - intOf (nth AC.dead o21 1))), AC.int IntKind.i64 (IntKind.i64.wrap (intOf (nth AC.dead o26 0) - intOf (nth AC.dead o21 0))), AC.int IntKind.i64 (IntKind.i64.wrap (intOf (nth AC.dead o26 1) - intOf (nth AC.dead o21 1))), AC.int IntKind.i64 x25]).bind fun o37 =>
           some [AC.bool (boolOf (nth AC.dead o37 0))] := by kernel_rfl
noncomputable def m_contour_OnArc := mf_contour_OnArc m_contour_near m_contour_passed m_contour_above m_contour_dot m_curve_Plane m_contour_scaled m_curve_Valid 
theorem sp_contour_OnArc : SpecOK Try.prog (C_contour_OnArc_0 m_contour_near m_contour_passed m_contour_above m_contour_dot m_curve_Plane m_contour_scaled m_curve_Valid) := specOK_of rfl ⟨r_contour_near, r_contour_passed, r_contour_above, r_contour_dot, r_curve_Plane, r_contour_scaled, r_curve_Valid, trivial⟩
theorem r_contour_OnArc : RowOK Try.prog (26, spOf sig_contour_OnArc osig_contour_OnArc m_contour_OnArc) := row_of (C := (C_contour_OnArc_0 m_contour_near m_contour_passed m_contour_above m_contour_dot m_curve_Plane m_contour_scaled m_curve_Valid)) (L := 64) (sig := sig_contour_OnArc) (osig := osig_contour_OnArc) (by kernel_rfl) (FnOK.bare rfl rfl rfl) sp_contour_OnArc eqOk mixOk (by kernel_rfl) (by kernel_rfl)
def sig_contour_OnItem : Sk := { tmps := [TS.v true [CS.int .i64, CS.int .i64, CS.int .i64, CS.int .i64, CS.int .i64, CS.int .i64, CS.int .i64, CS.int .i64, CS.int .i64, CS.int .i64, CS.int .i64, CS.int .i64, CS.int .i64, CS.bool, CS.int .i64, CS.bool, CS.int .i64, CS.int .i64, CS.int .i64, CS.int .i64, CS.int .i64, CS.bool], TS.v true [CS.int .i64, CS.int .i64, CS.int .i64], TS.v false [CS.int .i64]], boxes := [], rows := [] }
def osig_contour_OnItem : Sk := { tmps := [TS.v false [CS.bool]], boxes := [], rows := [] }
noncomputable def C_contour_OnItem_0 (M_contour_OnLine : List AC → Option (List AC)) (M_contour_scaled : List AC → Option (List AC)) (M_curve_Valid : List AC → Option (List AC)) (M_contour_OnArc : List AC → Option (List AC)) : Cfg := { spec := lookS [(20, spOf sig_contour_OnLine osig_contour_OnLine M_contour_OnLine), (68, spOf sig_contour_scaled osig_contour_scaled M_contour_scaled), (66, spOf sig_curve_Valid osig_curve_Valid M_curve_Valid), (26, spOf sig_contour_OnArc osig_contour_OnArc M_contour_OnArc)], eqOk := eqAll, ownOff := ownOff }
noncomputable def mf_contour_OnItem (M_contour_OnLine : List AC → Option (List AC)) (M_contour_scaled : List AC → Option (List AC)) (M_curve_Valid : List AC → Option (List AC)) (M_contour_OnArc : List AC → Option (List AC))  : List AC → Option (List AC) := modelF Try.prog (C_contour_OnItem_0 M_contour_OnLine M_contour_scaled M_curve_Valid M_contour_OnArc) 64 29 sig_contour_OnItem osig_contour_OnItem
theorem mf_contour_OnItem_eq (M_contour_OnLine : List AC → Option (List AC)) (M_contour_scaled : List AC → Option (List AC)) (M_curve_Valid : List AC → Option (List AC)) (M_contour_OnArc : List AC → Option (List AC))  (x0 : Int) (x1 : Int) (x2 : Int) (x3 : Int) (x4 : Int) (x5 : Int) (x6 : Int) (x7 : Int) (x8 : Int) (x9 : Int) (x10 : Int) (x11 : Int) (x12 : Int) (x13 : Bool) (x14 : Int) (x15 : Bool) (x16 : Int) (x17 : Int) (x18 : Int) (x19 : Int) (x20 : Int) (x21 : Bool) (x22 : Int) (x23 : Int) (x24 : Int) (x25 : Int) : mf_contour_OnItem M_contour_OnLine M_contour_scaled M_curve_Valid M_contour_OnArc  [AC.int .i64 x0, AC.int .i64 x1, AC.int .i64 x2, AC.int .i64 x3, AC.int .i64 x4, AC.int .i64 x5, AC.int .i64 x6, AC.int .i64 x7, AC.int .i64 x8, AC.int .i64 x9, AC.int .i64 x10, AC.int .i64 x11, AC.int .i64 x12, AC.bool x13, AC.int .i64 x14, AC.bool x15, AC.int .i64 x16, AC.int .i64 x17, AC.int .i64 x18, AC.int .i64 x19, AC.int .i64 x20, AC.bool x21, AC.int .i64 x22, AC.int .i64 x23, AC.int .i64 x24, AC.int .i64 x25] =
  bif x0 == 3 then
   (M_contour_OnArc [AC.int IntKind.i64 x0, AC.int IntKind.i64 x1, AC.int IntKind.i64 x2, AC.int IntKind.i64 x3, AC.int IntKind.i64 x4, AC.int IntKind.i64 x5, AC.int IntKind.i64 x6, AC.int IntKind.i64 x7, AC.int IntKind.i64 x8, AC.int IntKind.i64 x9, AC.int IntKind.i64 x10, AC.int IntKind.i64 x11, AC.int IntKind.i64 x12, AC.bool x13, AC.int IntKind.i64 x14, AC.bool x15, AC.int IntKind.i64 x16, AC.int IntKind.i64 x17, AC.int IntKind.i64 x18, AC.int IntKind.i64 x19, AC.int IntKind.i64 x20, AC.bool x21, AC.int IntKind.i64 x22, AC.int IntKind.i64 x23, AC.int IntKind.i64 x24, AC.int IntKind.i64 x25]).bind fun o5 =>
   some [AC.bool (boolOf (nth AC.dead o5 0))]
  else
   (M_curve_Valid [AC.int IntKind.i64 x0, AC.int IntKind.i64 x1, AC.int IntKind.i64 x2, AC.int IntKind.i64 x3, AC.int IntKind.i64 x4, AC.int IntKind.i64 x5, AC.int IntKind.i64 x6, AC.int IntKind.i64 x7, AC.int IntKind.i64 x8, AC.int IntKind.i64 x9, AC.int IntKind.i64 x10, AC.int IntKind.i64 x11, AC.int IntKind.i64 x12, AC.bool x13, AC.int IntKind.i64 x14, AC.bool x15, AC.int IntKind.i64 x16, AC.int IntKind.i64 x17, AC.int IntKind.i64 x18, AC.int IntKind.i64 x19, AC.int IntKind.i64 x20, AC.bool x21]).bind fun o6 =>
   bif boolOf (nth AC.dead o6 0) then
    (M_contour_scaled [AC.int IntKind.i64 x2, AC.int IntKind.i64 x3, AC.int IntKind.i64 x4]).bind fun o7 =>
    (M_contour_scaled [AC.int IntKind.i64 x5, AC.int IntKind.i64 x6, AC.int IntKind.i64 x7]).bind fun o8 =>
    (M_contour_OnLine [AC.int IntKind.i64 (intOf (nth AC.dead o7 0)), AC.int IntKind.i64 (intOf (nth AC.dead o7 1)), AC.int IntKind.i64 (intOf (nth AC.dead o7 2)), AC.int IntKind.i64 (intOf (nth AC.dead o8 0)), AC.int IntKind.i64 (intOf (nth AC.dead o8 1)), AC.int IntKind.i64 (intOf (nth AC.dead o8 2)), AC.int IntKind.i64 x22, AC.int IntKind.i64 x23, AC.int IntKind.i64 x24, AC.int IntKind.i64 x25]).bind fun o9 =>
    some [AC.bool (boolOf (nth AC.dead o9 0))]
   else
    some [AC.bool false] := by kernel_rfl
noncomputable def m_contour_OnItem := mf_contour_OnItem m_contour_OnLine m_contour_scaled m_curve_Valid m_contour_OnArc 
theorem sp_contour_OnItem : SpecOK Try.prog (C_contour_OnItem_0 m_contour_OnLine m_contour_scaled m_curve_Valid m_contour_OnArc) := specOK_of rfl ⟨r_contour_OnLine, r_contour_scaled, r_curve_Valid, r_contour_OnArc, trivial⟩
theorem r_contour_OnItem : RowOK Try.prog (29, spOf sig_contour_OnItem osig_contour_OnItem m_contour_OnItem) := row_of (C := (C_contour_OnItem_0 m_contour_OnLine m_contour_scaled m_curve_Valid m_contour_OnArc)) (L := 64) (sig := sig_contour_OnItem) (osig := osig_contour_OnItem) (by kernel_rfl) (FnOK.bare rfl rfl rfl) sp_contour_OnItem eqOk mixOk (by kernel_rfl) (by kernel_rfl)
def sig_cncref23_Fine : Sk := { tmps := [TS.v true [CS.int .i64, CS.int .i64, CS.int .i64]], boxes := [], rows := [] }
def osig_cncref23_Fine : Sk := { tmps := [TS.v true [CS.int .i64, CS.int .i64, CS.int .i64]], boxes := [], rows := [] }
noncomputable def C_cncref23_Fine_0  : Cfg := { spec := lookS [], eqOk := eqAll, ownOff := ownOff }
noncomputable def mf_cncref23_Fine   : List AC → Option (List AC) := modelF Try.prog C_cncref23_Fine_0 64 25 sig_cncref23_Fine osig_cncref23_Fine
theorem mf_cncref23_Fine_eq   (x0 : Int) (x1 : Int) (x2 : Int) : mf_cncref23_Fine   [AC.int .i64 x0, AC.int .i64 x1, AC.int .i64 x2] =
  some [AC.int IntKind.i64 (IntKind.i64.wrap (x0 * 16)), AC.int IntKind.i64 (IntKind.i64.wrap (x1 * 16)), AC.int IntKind.i64 (IntKind.i64.wrap (x2 * 16))] := by kernel_rfl
noncomputable def m_cncref23_Fine := mf_cncref23_Fine  
theorem sp_cncref23_Fine : SpecOK Try.prog (C_cncref23_Fine_0 ) := specOK_of rfl trivial
theorem r_cncref23_Fine : RowOK Try.prog (25, spOf sig_cncref23_Fine osig_cncref23_Fine m_cncref23_Fine) := row_of (C := C_cncref23_Fine_0) (L := 64) (sig := sig_cncref23_Fine) (osig := osig_cncref23_Fine) (by kernel_rfl) (FnOK.bare rfl rfl rfl) sp_cncref23_Fine eqOk mixOk (by kernel_rfl) (by kernel_rfl)
def sig_cncmill_Source_Next : Sk := { tmps := [TS.v false [CS.ptr 20000 0], TS.v false [CS.int .i64]], boxes := [(20000, 138, [CS.sl [Kd.int .i64], CS.int .i64])], rows := [] }
def osig_cncmill_Source_Next : Sk := { tmps := [TS.v false [CS.int .i64]], boxes := [(20000, 138, [CS.sl [Kd.int .i64], CS.int .i64])], rows := [] }
noncomputable def C_cncmill_Source_Next_0 (M_cncmill_Mod : List AC → Option (List AC)) : Cfg := { spec := lookS [(23, spOf sig_cncmill_Mod osig_cncmill_Mod M_cncmill_Mod)], eqOk := eqAll, ownOff := ownOff }
noncomputable def mf_cncmill_Source_Next (M_cncmill_Mod : List AC → Option (List AC))  : List AC → Option (List AC) := modelF Try.prog (C_cncmill_Source_Next_0 M_cncmill_Mod) 64 61 sig_cncmill_Source_Next osig_cncmill_Source_Next
theorem mf_cncmill_Source_Next_eq (M_cncmill_Mod : List AC → Option (List AC))  (x0 : Int) (x1 : List (List AC)) (x2 : Int) : mf_cncmill_Source_Next M_cncmill_Mod  [AC.int .i64 x0, AC.view [Kd.int .i64] x1, AC.int .i64 x2] =
  bif decide (x2 ≥ (↑x1.length : Int)) then
   some [AC.int IntKind.i64 0, AC.view [Kd.int IntKind.i64] x1, AC.int IntKind.i64 x2]
  else
   bif decide (0 ≤ x2) && decide (x2 < (↑x1.length : Int)) then
    (M_cncmill_Mod [AC.int IntKind.i64 (intOf (nth AC.dead (nth [] x1 x2.toNat) 0)), AC.int IntKind.i64 x0]).bind fun o1 =>
    some [AC.int IntKind.i64 (intOf (nth AC.dead o1 0)), AC.view [Kd.int IntKind.i64] x1, AC.int IntKind.i64 (IntKind.i64.wrap (x2 + 1))]
   else
    none := by kernel_rfl
noncomputable def m_cncmill_Source_Next := mf_cncmill_Source_Next m_cncmill_Mod 
theorem sp_cncmill_Source_Next : SpecOK Try.prog (C_cncmill_Source_Next_0 m_cncmill_Mod) := specOK_of rfl ⟨r_cncmill_Mod, trivial⟩
theorem r_cncmill_Source_Next : RowOK Try.prog (61, spOf sig_cncmill_Source_Next osig_cncmill_Source_Next m_cncmill_Source_Next) := row_of (C := (C_cncmill_Source_Next_0 m_cncmill_Mod)) (L := 64) (sig := sig_cncmill_Source_Next) (osig := osig_cncmill_Source_Next) (by kernel_rfl) (FnOK.bare rfl rfl rfl) sp_cncmill_Source_Next eqOk mixOk (by kernel_rfl) (by kernel_rfl)
def sig_cncref23_Space : Sk := { tmps := [TS.v false [CS.int .i64], TS.v false [CS.int .i64], TS.v false [CS.int .i64], TS.v false [CS.int .i64]], boxes := [], rows := [] }
def osig_cncref23_Space : Sk := { tmps := [TS.v true [CS.int .i64, CS.int .i64, CS.int .i64]], boxes := [], rows := [] }
noncomputable def C_cncref23_Space_0  : Cfg := { spec := lookS [], eqOk := eqAll, ownOff := ownOff }
noncomputable def mf_cncref23_Space   : List AC → Option (List AC) := modelF Try.prog C_cncref23_Space_0 64 65 sig_cncref23_Space osig_cncref23_Space
theorem mf_cncref23_Space_eq   (x0 : Int) (x1 : Int) (x2 : Int) (x3 : Int) : mf_cncref23_Space   [AC.int .i64 x0, AC.int .i64 x1, AC.int .i64 x2, AC.int .i64 x3] =
  bif x3 == 17 then
   some [AC.int IntKind.i64 x0, AC.int IntKind.i64 x1, AC.int IntKind.i64 x2]
  else
   bif x3 == 18 then
    some [AC.int IntKind.i64 x1, AC.int IntKind.i64 x2, AC.int IntKind.i64 x0]
   else
    bif x3 == 19 then
     some [AC.int IntKind.i64 x2, AC.int IntKind.i64 x0, AC.int IntKind.i64 x1]
    else
     some [AC.int IntKind.i64 0, AC.int IntKind.i64 0, AC.int IntKind.i64 0] := by kernel_rfl
noncomputable def m_cncref23_Space := mf_cncref23_Space  
theorem sp_cncref23_Space : SpecOK Try.prog (C_cncref23_Space_0 ) := specOK_of rfl trivial
theorem r_cncref23_Space : RowOK Try.prog (65, spOf sig_cncref23_Space osig_cncref23_Space m_cncref23_Space) := row_of (C := C_cncref23_Space_0) (L := 64) (sig := sig_cncref23_Space) (osig := osig_cncref23_Space) (by kernel_rfl) (FnOK.bare rfl rfl rfl) sp_cncref23_Space eqOk mixOk (by kernel_rfl) (by kernel_rfl)
def sig_cncmill_turned : Sk := { tmps := [TS.v false [CS.int .i64], TS.v false [CS.int .i64]], boxes := [], rows := [] }
def osig_cncmill_turned : Sk := { tmps := [TS.tup [(false, [CS.int .i64]), (false, [CS.int .i64])]], boxes := [], rows := [] }
noncomputable def C_cncmill_turned_0  : Cfg := { spec := lookS [], eqOk := eqAll, ownOff := ownOff }
noncomputable def mf_cncmill_turned   : List AC → Option (List AC) := modelF Try.prog C_cncmill_turned_0 64 112 sig_cncmill_turned osig_cncmill_turned
theorem mf_cncmill_turned_eq   (x0 : Int) (x1 : Int) : mf_cncmill_turned   [AC.int .i64 x0, AC.int .i64 x1] =
  bif decide (0 ≤ x1.tmod 4) && decide (x1.tmod 4 < (↑[[AC.int IntKind.i64 x0], [AC.int IntKind.i64 0], [AC.int IntKind.i64 (IntKind.i64.wrap (0 - x0))], [AC.int IntKind.i64 0]].length : Int)) then
   bif decide (0 ≤ x1.tmod 4) && decide (x1.tmod 4 < (↑[[AC.int IntKind.i64 0], [AC.int IntKind.i64 x0], [AC.int IntKind.i64 0], [AC.int IntKind.i64 (IntKind.i64.wrap (0 - x0))]].length : Int)) then
    some [AC.int IntKind.i64 (intOf (nth AC.dead (nth [] [[AC.int IntKind.i64 x0], [AC.int IntKind.i64 0], [AC.int IntKind.i64 (IntKind.i64.wrap (0 - x0))], [AC.int IntKind.i64 0]] (x1.tmod 4).toNat) 0)), AC.int IntKind.i64 (intOf (nth AC.dead (nth [] [[AC.int IntKind.i64 0], [AC.int IntKind.i64 x0], [AC.int IntKind.i64 0], [AC.int IntKind.i64 (IntKind.i64.wrap (0 - x0))]] (x1.tmod 4).toNat) 0))]
   else
    none
  else
   none := by kernel_rfl
noncomputable def m_cncmill_turned := mf_cncmill_turned  
theorem sp_cncmill_turned : SpecOK Try.prog (C_cncmill_turned_0 ) := specOK_of rfl trivial
theorem r_cncmill_turned : RowOK Try.prog (112, spOf sig_cncmill_turned osig_cncmill_turned m_cncmill_turned) := row_of (C := C_cncmill_turned_0) (L := 64) (sig := sig_cncmill_turned) (osig := osig_cncmill_turned) (by kernel_rfl) (FnOK.bare rfl rfl rfl) sp_cncmill_turned eqOk mixOk (by kernel_rfl) (by kernel_rfl)
def sig_cncref23_Plane : Sk := { tmps := [TS.v true [CS.int .i64, CS.int .i64, CS.int .i64], TS.v false [CS.int .i64]], boxes := [], rows := [] }
def osig_cncref23_Plane : Sk := { tmps := [TS.tup [(false, [CS.int .i64]), (false, [CS.int .i64]), (false, [CS.int .i64])]], boxes := [], rows := [] }
noncomputable def C_cncref23_Plane_0  : Cfg := { spec := lookS [], eqOk := eqAll, ownOff := ownOff }
noncomputable def mf_cncref23_Plane   : List AC → Option (List AC) := modelF Try.prog C_cncref23_Plane_0 64 64 sig_cncref23_Plane osig_cncref23_Plane
theorem mf_cncref23_Plane_eq   (x0 : Int) (x1 : Int) (x2 : Int) (x3 : Int) : mf_cncref23_Plane   [AC.int .i64 x0, AC.int .i64 x1, AC.int .i64 x2, AC.int .i64 x3] =
  bif x3 == 17 then
   some [AC.int IntKind.i64 x0, AC.int IntKind.i64 x1, AC.int IntKind.i64 x2]
  else
   bif x3 == 18 then
    some [AC.int IntKind.i64 x2, AC.int IntKind.i64 x0, AC.int IntKind.i64 x1]
   else
    bif x3 == 19 then
     some [AC.int IntKind.i64 x1, AC.int IntKind.i64 x2, AC.int IntKind.i64 x0]
    else
     some [AC.int IntKind.i64 0, AC.int IntKind.i64 0, AC.int IntKind.i64 0] := by kernel_rfl
noncomputable def m_cncref23_Plane := mf_cncref23_Plane  
theorem sp_cncref23_Plane : SpecOK Try.prog (C_cncref23_Plane_0 ) := specOK_of rfl trivial
theorem r_cncref23_Plane : RowOK Try.prog (64, spOf sig_cncref23_Plane osig_cncref23_Plane m_cncref23_Plane) := row_of (C := C_cncref23_Plane_0) (L := 64) (sig := sig_cncref23_Plane) (osig := osig_cncref23_Plane) (by kernel_rfl) (FnOK.bare rfl rfl rfl) sp_cncref23_Plane eqOk mixOk (by kernel_rfl) (by kernel_rfl)
def sig_cncmill_arc : Sk := { tmps := [TS.v false [CS.ptr 20000 0], TS.v true [CS.int .i64, CS.int .i64, CS.int .i64], TS.v false [CS.int .i64]], boxes := [(20000, 138, [CS.sl [Kd.int .i64], CS.int .i64])], rows := [] }
def osig_cncmill_arc : Sk := { tmps := [TS.v true [CS.int .i64, CS.int .i64, CS.int .i64, CS.int .i64, CS.int .i64, CS.int .i64, CS.int .i64, CS.int .i64, CS.int .i64, CS.int .i64, CS.int .i64, CS.int .i64, CS.int .i64, CS.bool, CS.int .i64, CS.bool, CS.int .i64, CS.int .i64, CS.int .i64, CS.int .i64, CS.int .i64, CS.bool]], boxes := [(20000, 138, [CS.sl [Kd.int .i64], CS.int .i64])], rows := [] }
noncomputable def C_cncmill_arc_0 (M_cncref23_Space : List AC → Option (List AC)) (M_cncmill_turned : List AC → Option (List AC)) (M_cncref23_Plane : List AC → Option (List AC)) (M_cncmill_Source_Next : List AC → Option (List AC)) : Cfg := { spec := lookS [(65, spOf sig_cncref23_Space osig_cncref23_Space M_cncref23_Space), (112, spOf sig_cncmill_turned osig_cncmill_turned M_cncmill_turned), (64, spOf sig_cncref23_Plane osig_cncref23_Plane M_cncref23_Plane), (61, spOf sig_cncmill_Source_Next osig_cncmill_Source_Next M_cncmill_Source_Next)], eqOk := eqAll, pure := fun f => !(elemN [61] f), ownOff := ownOff }
noncomputable def mf_cncmill_arc (M_cncref23_Space : List AC → Option (List AC)) (M_cncmill_turned : List AC → Option (List AC)) (M_cncref23_Plane : List AC → Option (List AC)) (M_cncmill_Source_Next : List AC → Option (List AC))  : List AC → Option (List AC) := modelF Try.prog (C_cncmill_arc_0 M_cncref23_Space M_cncmill_turned M_cncref23_Plane M_cncmill_Source_Next) 64 60 sig_cncmill_arc osig_cncmill_arc
theorem mf_cncmill_arc_eq (M_cncref23_Space : List AC → Option (List AC)) (M_cncmill_turned : List AC → Option (List AC)) (M_cncref23_Plane : List AC → Option (List AC)) (M_cncmill_Source_Next : List AC → Option (List AC))  (x0 : Int) (x1 : Int) (x2 : Int) (x3 : Int) (x4 : List (List AC)) (x5 : Int) : mf_cncmill_arc M_cncref23_Space M_cncmill_turned M_cncref23_Plane M_cncmill_Source_Next  [AC.int .i64 x0, AC.int .i64 x1, AC.int .i64 x2, AC.int .i64 x3, AC.view [Kd.int .i64] x4, AC.int .i64 x5] =
  (M_cncmill_Source_Next [AC.int IntKind.i64 3, AC.view [Kd.int IntKind.i64] x4, AC.int IntKind.i64 x5]).bind fun o18 =>
  bif decide (0 ≤ intOf (nth AC.dead o18 0)) && decide (intOf (nth AC.dead o18 0) < (↑[[AC.int IntKind.i64 17], [AC.int IntKind.i64 18], [AC.int IntKind.i64 19]].length : Int)) then
   (M_cncmill_Source_Next [AC.int IntKind.i64 2, AC.view [Kd.int IntKind.i64] (rowsOf (nth AC.dead o18 1)), AC.int IntKind.i64 (intOf (nth AC.dead o18 2))]).bind fun o19 =>
   (M_cncmill_Source_Next [AC.int IntKind.i64 x3, AC.view [Kd.int IntKind.i64] (rowsOf (nth AC.dead o19 1)), AC.int IntKind.i64 (intOf (nth AC.dead o19 2))]).bind fun o20 =>
   (M_cncmill_Source_Next [AC.int IntKind.i64 4, AC.view [Kd.int IntKind.i64] (rowsOf (nth AC.dead o20 1)), AC.int IntKind.i64 (intOf (nth AC.dead o20 2))]).bind fun o21 =>
   (M_cncmill_Source_Next [AC.int IntKind.i64 4, AC.view [Kd.int IntKind.i64] (rowsOf (nth AC.dead o21 1)), AC.int IntKind.i64 (intOf (nth AC.dead o21 2))]).bind fun o22 =>
   (M_cncref23_Plane [AC.int IntKind.i64 x0, AC.int IntKind.i64 x1, AC.int IntKind.i64 x2, AC.int IntKind.i64 (intOf (nth AC.dead (nth [] [[AC.int IntKind.i64 17], [AC.int IntKind.i64 18], [AC.int IntKind.i64 19]] (intOf (nth AC.dead o18 0)).toNat) 0))]).bind fun o23 =>
   (M_cncmill_turned [AC.int IntKind.i64 (IntKind.i64.wrap (8 + intOf (nth AC.dead o20 0))), AC.int IntKind.i64 (intOf (nth AC.dead o21 0))]).bind fun o24 =>
   (M_cncmill_turned [AC.int IntKind.i64 (IntKind.i64.wrap (8 + intOf (nth AC.dead o20 0))), AC.int IntKind.i64 (IntKind.i64.wrap (intOf (nth AC.dead o21 0) + intOf (nth AC.dead o22 0)))]).bind fun o25 =>
   (M_cncref23_Space [AC.int IntKind.i64 (IntKind.i64.wrap (intOf (nth AC.dead o23 0) - intOf (nth AC.dead o24 0))), AC.int IntKind.i64 (IntKind.i64.wrap (intOf (nth AC.dead o23 1) - intOf (nth AC.dead o24 1))), AC.int IntKind.i64 (intOf (nth AC.dead o23 2)), AC.int IntKind.i64 (intOf (nth AC.dead (nth [] [[AC.int IntKind.i64 17], [AC.int IntKind.i64 18], [AC.int IntKind.i64 19]] (intOf (nth AC.dead o18 0)).toNat) 0))]).bind fun o26 =>
   bif decide (intOf (nth AC.dead o22 0) > 0) then
    (M_cncmill_Source_Next [AC.int IntKind.i64 3, AC.view [Kd.int IntKind.i64] (rowsOf (nth AC.dead o22 1)), AC.int IntKind.i64 (intOf (nth AC.dead o22 2))]).bind fun o27 =>
    bif intOf (nth AC.dead o27 0) == 0 then
     bif decide (IntKind.i64.wrap (8 + intOf (nth AC.dead o20 0)) = 0) then
      none
     else
      (M_cncmill_Source_Next [AC.int IntKind.i64 5, AC.view [Kd.int IntKind.i64] (rowsOf (nth AC.dead o27 1)), AC.int IntKind.i64 (intOf (nth AC.dead o27 2))]).bind fun o28 =>
      bif decide (IntKind.i64.wrap (8 + intOf (nth AC.dead o20 0)) = 0) then
       none
      else
       (M_cncmill_Source_Next [AC.int IntKind.i64 5, AC.view [Kd.int IntKind.i64] (rowsOf (nth AC.dead o28 1)), AC.int IntKind.i64 (intOf (nth AC.dead o28 2))]).bind fun o29 =>
       (M_cncmill_Source_Next [AC.int IntKind.i64 4, AC.view [Kd.int IntKind.i64] (rowsOf (nth AC.dead o29 1)), AC.int IntKind.i64 (intOf (nth AC.dead o29 2))]).bind fun o30 =>
       bif decide (0 ≤ intOf (nth AC.dead o30 0)) && decide (intOf (nth AC.dead o30 0) < (↑[[AC.int IntKind.i64 0], [AC.int IntKind.i64 0], [AC.int IntKind.i64 7], [AC.int IntKind.i64 (-12)]].length : Int)) then
        (M_cncref23_Space [AC.int IntKind.i64 (IntKind.i64.wrap (IntKind.i64.wrap (intOf (nth AC.dead o23 0) - intOf (nth AC.dead o24 0)) + IntKind.i64.wrap (intOf (nth AC.dead o25 0) + IntKind.i64.wrap (IntKind.i64.wrap ((intOf (nth AC.dead o25 0)).tdiv (IntKind.i64.wrap (8 + intOf (nth AC.dead o20 0)))) * intOf (nth AC.dead o28 0))))), AC.int IntKind.i64 (IntKind.i64.wrap (IntKind.i64.wrap (intOf (nth AC.dead o23 1) - intOf (nth AC.dead o24 1)) + IntKind.i64.wrap (intOf (nth AC.dead o25 1) + IntKind.i64.wrap (IntKind.i64.wrap ((intOf (nth AC.dead o25 1)).tdiv (IntKind.i64.wrap (8 + intOf (nth AC.dead o20 0)))) * intOf (nth AC.dead o29 0))))), AC.int IntKind.i64 (IntKind.i64.wrap (intOf (nth AC.dead o23 2) + intOf (nth AC.dead (nth [] [[AC.int IntKind.i64 0], [AC.int IntKind.i64 0], [AC.int IntKind.i64 7], [AC.int IntKind.i64 (-12)]] (intOf (nth AC.dead o30 0)).toNat) 0))), AC.int IntKind.i64 (intOf (nth AC.dead (nth [] [[AC.int IntKind.i64 17], [AC.int IntKind.i64 18], [AC.int IntKind.i64 19]] (intOf (nth AC.dead o18 0)).toNat) 0))]).bind fun o31 =>
        some [AC.int IntKind.i64 3, AC.int IntKind.i64 0, AC.int IntKind.i64 x0, AC.int IntKind.i64 x1, AC.int IntKind.i64 x2, AC.int IntKind.i64 (intOf (nth AC.dead o31 0)), AC.int IntKind.i64 (intOf (nth AC.dead o31 1)), AC.int IntKind.i64 (intOf (nth AC.dead o31 2)), AC.int IntKind.i64 (intOf (nth AC.dead (nth [] [[AC.int IntKind.i64 17], [AC.int IntKind.i64 18], [AC.int IntKind.i64 19]] (intOf (nth AC.dead o18 0)).toNat) 0)), AC.int IntKind.i64 (intOf (nth AC.dead o26 0)), AC.int IntKind.i64 (intOf (nth AC.dead o26 1)), AC.int IntKind.i64 (intOf (nth AC.dead o26 2)), AC.int IntKind.i64 (IntKind.i64.wrap (1 - IntKind.i64.wrap (intOf (nth AC.dead o19 0) * 2))), AC.bool (intOf (nth AC.dead o22 0) == 0), AC.int IntKind.i64 0, AC.bool false, AC.int IntKind.i64 0, AC.int IntKind.i64 0, AC.int IntKind.i64 0, AC.int IntKind.i64 0, AC.int IntKind.i64 0, AC.bool false, AC.view [Kd.int IntKind.i64] (rowsOf (nth AC.dead o30 1)), AC.int IntKind.i64 (intOf (nth AC.dead o30 2))]
       else
        none
    else
     (M_cncmill_Source_Next [AC.int IntKind.i64 4, AC.view [Kd.int IntKind.i64] (rowsOf (nth AC.dead o27 1)), AC.int IntKind.i64 (intOf (nth AC.dead o27 2))]).bind fun o32 =>
     bif decide (0 ≤ intOf (nth AC.dead o32 0)) && decide (intOf (nth AC.dead o32 0) < (↑[[AC.int IntKind.i64 0], [AC.int IntKind.i64 0], [AC.int IntKind.i64 7], [AC.int IntKind.i64 (-12)]].length : Int)) then
      (M_cncref23_Space [AC.int IntKind.i64 (IntKind.i64.wrap (IntKind.i64.wrap (intOf (nth AC.dead o23 0) - intOf (nth AC.dead o24 0)) + intOf (nth AC.dead o25 0))), AC.int IntKind.i64 (IntKind.i64.wrap (IntKind.i64.wrap (intOf (nth AC.dead o23 1) - intOf (nth AC.dead o24 1)) + intOf (nth AC.dead o25 1))), AC.int IntKind.i64 (IntKind.i64.wrap (intOf (nth AC.dead o23 2) + intOf (nth AC.dead (nth [] [[AC.int IntKind.i64 0], [AC.int IntKind.i64 0], [AC.int IntKind.i64 7], [AC.int IntKind.i64 (-12)]] (intOf (nth AC.dead o32 0)).toNat) 0))), AC.int IntKind.i64 (intOf (nth AC.dead (nth [] [[AC.int IntKind.i64 17], [AC.int IntKind.i64 18], [AC.int IntKind.i64 19]] (intOf (nth AC.dead o18 0)).toNat) 0))]).bind fun o33 =>
      some [AC.int IntKind.i64 3, AC.int IntKind.i64 0, AC.int IntKind.i64 x0, AC.int IntKind.i64 x1, AC.int IntKind.i64 x2, AC.int IntKind.i64 (intOf (nth AC.dead o33 0)), AC.int IntKind.i64 (intOf (nth AC.dead o33 1)), AC.int IntKind.i64 (intOf (nth AC.dead o33 2)), AC.int IntKind.i64 (intOf (nth AC.dead (nth [] [[AC.int IntKind.i64 17], [AC.int IntKind.i64 18], [AC.int IntKind.i64 19]] (intOf (nth AC.dead o18 0)).toNat) 0)), AC.int IntKind.i64 (intOf (nth AC.dead o26 0)), AC.int IntKind.i64 (intOf (nth AC.dead o26 1)), AC.int IntKind.i64 (intOf (nth AC.dead o26 2)), AC.int IntKind.i64 (IntKind.i64.wrap (1 - IntKind.i64.wrap (intOf (nth AC.dead o19 0) * 2))), AC.bool (intOf (nth AC.dead o22 0) == 0), AC.int IntKind.i64 0, AC.bool false, AC.int IntKind.i64 0, AC.int IntKind.i64 0, AC.int IntKind.i64 0, AC.int IntKind.i64 0, AC.int IntKind.i64 0, AC.bool false, AC.view [Kd.int IntKind.i64] (rowsOf (nth AC.dead o32 1)), AC.int IntKind.i64 (intOf (nth AC.dead o32 2))]
     else
      none
   else
    (M_cncmill_Source_Next [AC.int IntKind.i64 4, AC.view [Kd.int IntKind.i64] (rowsOf (nth AC.dead o22 1)), AC.int IntKind.i64 (intOf (nth AC.dead o22 2))]).bind fun o34 =>
    bif decide (0 ≤ intOf (nth AC.dead o34 0)) && decide (intOf (nth AC.dead o34 0) < (↑[[AC.int IntKind.i64 0], [AC.int IntKind.i64 0], [AC.int IntKind.i64 7], [AC.int IntKind.i64 (-12)]].length : Int)) then
     (M_cncref23_Space [AC.int IntKind.i64 (IntKind.i64.wrap (IntKind.i64.wrap (intOf (nth AC.dead o23 0) - intOf (nth AC.dead o24 0)) + intOf (nth AC.dead o25 0))), AC.int IntKind.i64 (IntKind.i64.wrap (IntKind.i64.wrap (intOf (nth AC.dead o23 1) - intOf (nth AC.dead o24 1)) + intOf (nth AC.dead o25 1))), AC.int IntKind.i64 (IntKind.i64.wrap (intOf (nth AC.dead o23 2) + intOf (nth AC.dead (nth [] [[AC.int IntKind.i64 0], [AC.int IntKind.i64 0], [AC.int IntKind.i64 7], [AC.int IntKind.i64 (-12)]] (intOf (nth AC.dead o34 0)).toNat) 0))), AC.int IntKind.i64 (intOf (nth AC.dead (nth [] [[AC.int IntKind.i64 17], [AC.int IntKind.i64 18], [AC.int IntKind.i64 19]] (intOf (nth AC.dead o18 0)).toNat) 0))]).bind fun o35 =>
     some [AC.int IntKind.i64 3, AC.int IntKind.i64 0, AC.int IntKind.i64 x0, AC.int IntKind.i64 x1, AC.int IntKind.i64 x2, AC.int IntKind.i64 (intOf (nth AC.dead o35 0)), AC.int IntKind.i64 (intOf (nth AC.dead o35 1)), AC.int IntKind.i64 (intOf (nth AC.dead o35 2)), AC.int IntKind.i64 (intOf (nth AC.dead (nth [] [[AC.int IntKind.i64 17], [AC.int IntKind.i64 18], [AC.int IntKind.i64 19]] (intOf (nth AC.dead o18 0)).toNat) 0)), AC.int IntKind.i64 (intOf (nth AC.dead o26 0)), AC.int IntKind.i64 (intOf (nth AC.dead o26 1)), AC.int IntKind.i64 (intOf (nth AC.dead o26 2)), AC.int IntKind.i64 (IntKind.i64.wrap (1 - IntKind.i64.wrap (intOf (nth AC.dead o19 0) * 2))), AC.bool (intOf (nth AC.dead o22 0) == 0), AC.int IntKind.i64 0, AC.bool false, AC.int IntKind.i64 0, AC.int IntKind.i64 0, AC.int IntKind.i64 0, AC.int IntKind.i64 0, AC.int IntKind.i64 0, AC.bool false, AC.view [Kd.int IntKind.i64] (rowsOf (nth AC.dead o34 1)), AC.int IntKind.i64 (intOf (nth AC.dead o34 2))]
    else
     none
  else
   none := by kernel_rfl
noncomputable def m_cncmill_arc := mf_cncmill_arc m_cncref23_Space m_cncmill_turned m_cncref23_Plane m_cncmill_Source_Next 
theorem sp_cncmill_arc : SpecOK Try.prog (C_cncmill_arc_0 m_cncref23_Space m_cncmill_turned m_cncref23_Plane m_cncmill_Source_Next) := specOK_of rfl ⟨r_cncref23_Space, r_cncmill_turned, r_cncref23_Plane, r_cncmill_Source_Next, trivial⟩
theorem r_cncmill_arc : RowOK Try.prog (60, spOf sig_cncmill_arc osig_cncmill_arc m_cncmill_arc) := row_of (C := (C_cncmill_arc_0 m_cncref23_Space m_cncmill_turned m_cncref23_Plane m_cncmill_Source_Next)) (L := 64) (sig := sig_cncmill_arc) (osig := osig_cncmill_arc) (by kernel_rfl) (FnOK.bare rfl rfl rfl) sp_cncmill_arc eqOk mixOk (by kernel_rfl) (by kernel_rfl)
def sig_cncmill_motion : Sk := { tmps := [TS.v false [CS.ptr 20000 0], TS.v true [CS.int .i64, CS.int .i64, CS.int .i64], TS.v false [CS.int .i64]], boxes := [(20000, 138, [CS.sl [Kd.int .i64], CS.int .i64])], rows := [] }
def osig_cncmill_motion : Sk := { tmps := [TS.v true [CS.int .i64, CS.int .i64, CS.int .i64, CS.int .i64, CS.int .i64, CS.int .i64, CS.int .i64, CS.int .i64, CS.int .i64, CS.int .i64, CS.int .i64, CS.int .i64, CS.int .i64, CS.bool, CS.int .i64, CS.bool, CS.int .i64, CS.int .i64, CS.int .i64, CS.int .i64, CS.int .i64, CS.bool]], boxes := [(20000, 138, [CS.sl [Kd.int .i64], CS.int .i64])], rows := [] }
noncomputable def C_cncmill_motion_0 (M_cncmill_Source_Next : List AC → Option (List AC)) (M_cncmill_arc : List AC → Option (List AC)) : Cfg := { spec := lookS [(61, spOf sig_cncmill_Source_Next osig_cncmill_Source_Next M_cncmill_Source_Next), (60, spOf sig_cncmill_arc osig_cncmill_arc M_cncmill_arc)], eqOk := eqAll, pure := fun f => !(elemN [61, 60] f), ownOff := ownOff }
noncomputable def mf_cncmill_motion (M_cncmill_Source_Next : List AC → Option (List AC)) (M_cncmill_arc : List AC → Option (List AC))  : List AC → Option (List AC) := modelF Try.prog (C_cncmill_motion_0 M_cncmill_Source_Next M_cncmill_arc) 64 79 sig_cncmill_motion osig_cncmill_motion
theorem mf_cncmill_motion_eq (M_cncmill_Source_Next : List AC → Option (List AC)) (M_cncmill_arc : List AC → Option (List AC))  (x0 : Int) (x1 : Int) (x2 : Int) (x3 : Int) (x4 : List (List AC)) (x5 : Int) : mf_cncmill_motion M_cncmill_Source_Next M_cncmill_arc  [AC.int .i64 x0, AC.int .i64 x1, AC.int .i64 x2, AC.int .i64 x3, AC.view [Kd.int .i64] x4, AC.int .i64 x5] =
  bif x3 == 3 then
   (M_cncmill_arc [AC.int IntKind.i64 x0, AC.int IntKind.i64 x1, AC.int IntKind.i64 x2, AC.int IntKind.i64 8, AC.view [Kd.int IntKind.i64] x4, AC.int IntKind.i64 x5]).bind fun o18 =>
   bif x3 == 1 then
    some [AC.int IntKind.i64 (intOf (nth AC.dead o18 0)), AC.int IntKind.i64 (intOf (nth AC.dead o18 1)), AC.int IntKind.i64 (intOf (nth AC.dead o18 2)), AC.int IntKind.i64 (intOf (nth AC.dead o18 3)), AC.int IntKind.i64 (intOf (nth AC.dead o18 4)), AC.int IntKind.i64 (intOf (nth AC.dead o18 5)), AC.int IntKind.i64 (intOf (nth AC.dead o18 6)), AC.int IntKind.i64 (intOf (nth AC.dead o18 7)), AC.int IntKind.i64 (intOf (nth AC.dead o18 8)), AC.int IntKind.i64 (intOf (nth AC.dead o18 9)), AC.int IntKind.i64 (intOf (nth AC.dead o18 10)), AC.int IntKind.i64 (intOf (nth AC.dead o18 11)), AC.int IntKind.i64 (intOf (nth AC.dead o18 12)), AC.bool (boolOf (nth AC.dead o18 13)), AC.int IntKind.i64 (intOf (nth AC.dead o18 14)), AC.bool (boolOf (nth AC.dead o18 15)), AC.int IntKind.i64 (intOf (nth AC.dead o18 16)), AC.int IntKind.i64 (intOf (nth AC.dead o18 17)), AC.int IntKind.i64 (intOf (nth AC.dead o18 18)), AC.int IntKind.i64 (intOf (nth AC.dead o18 19)), AC.int IntKind.i64 (intOf (nth AC.dead o18 20)), AC.bool (boolOf (nth AC.dead o18 21)), AC.view [Kd.int IntKind.i64] (rowsOf (nth AC.dead o18 22)), AC.int IntKind.i64 (intOf (nth AC.dead o18 23))]
   else
    (M_cncmill_Source_Next [AC.int IntKind.i64 5, AC.view [Kd.int IntKind.i64] (rowsOf (nth AC.dead o18 22)), AC.int IntKind.i64 (intOf (nth AC.dead o18 23))]).bind fun o19 =>
    bif decide (0 ≤ intOf (nth AC.dead o19 0)) && decide (intOf (nth AC.dead o19 0) < (↑[[AC.int IntKind.i64 300000], [AC.int IntKind.i64 1], [AC.int IntKind.i64 60000], [AC.int IntKind.i64 2000000], [AC.int IntKind.i64 60000000]].length : Int)) then
     (M_cncmill_Source_Next [AC.int IntKind.i64 5, AC.view [Kd.int IntKind.i64] (rowsOf (nth AC.dead o19 1)), AC.int IntKind.i64 (intOf (nth AC.dead o19 2))]).bind fun o20 =>
     bif decide (0 ≤ intOf (nth AC.dead o20 0)) && decide (intOf (nth AC.dead o20 0) < (↑[[AC.int IntKind.i64 0], [AC.int IntKind.i64 1], [AC.int IntKind.i64 2], [AC.int IntKind.i64 4], [AC.int IntKind.i64 9]].length : Int)) then
      bif x3 == 5 then
       (M_cncmill_Source_Next [AC.int IntKind.i64 60, AC.view [Kd.int IntKind.i64] (rowsOf (nth AC.dead o20 1)), AC.int IntKind.i64 (intOf (nth AC.dead o20 2))]).bind fun o21 =>
       bif x3 == 6 then
        (M_cncmill_Source_Next [AC.int IntKind.i64 2, AC.view [Kd.int IntKind.i64] (rowsOf (nth AC.dead o21 1)), AC.int IntKind.i64 (intOf (nth AC.dead o21 2))]).bind fun o22 =>
        some [AC.int IntKind.i64 (intOf (nth AC.dead o18 0)), AC.int IntKind.i64 (intOf (nth AC.dead o18 1)), AC.int IntKind.i64 (intOf (nth AC.dead o18 2)), AC.int IntKind.i64 (intOf (nth AC.dead o18 3)), AC.int IntKind.i64 (intOf (nth AC.dead o18 4)), AC.int IntKind.i64 (intOf (nth AC.dead o18 5)), AC.int IntKind.i64 (intOf (nth AC.dead o18 6)), AC.int IntKind.i64 (intOf (nth AC.dead o18 7)), AC.int IntKind.i64 (intOf (nth AC.dead o18 8)), AC.int IntKind.i64 (intOf (nth AC.dead o18 9)), AC.int IntKind.i64 (intOf (nth AC.dead o18 10)), AC.int IntKind.i64 (intOf (nth AC.dead o18 11)), AC.int IntKind.i64 (intOf (nth AC.dead o18 12)), AC.bool (boolOf (nth AC.dead o18 13)), AC.int IntKind.i64 (IntKind.i64.wrap (1 + intOf (nth AC.dead o21 0))), AC.bool true, AC.int IntKind.i64 (intOf (nth AC.dead o18 16)), AC.int IntKind.i64 (intOf (nth AC.dead o18 17)), AC.int IntKind.i64 0, AC.int IntKind.i64 (IntKind.i64.wrap (3 + intOf (nth AC.dead o22 0))), AC.int IntKind.i64 (intOf (nth AC.dead o18 20)), AC.bool (boolOf (nth AC.dead o18 21)), AC.view [Kd.int IntKind.i64] (rowsOf (nth AC.dead o22 1)), AC.int IntKind.i64 (intOf (nth AC.dead o22 2))]
       else
        some [AC.int IntKind.i64 (intOf (nth AC.dead o18 0)), AC.int IntKind.i64 (intOf (nth AC.dead o18 1)), AC.int IntKind.i64 (intOf (nth AC.dead o18 2)), AC.int IntKind.i64 (intOf (nth AC.dead o18 3)), AC.int IntKind.i64 (intOf (nth AC.dead o18 4)), AC.int IntKind.i64 (intOf (nth AC.dead o18 5)), AC.int IntKind.i64 (intOf (nth AC.dead o18 6)), AC.int IntKind.i64 (intOf (nth AC.dead o18 7)), AC.int IntKind.i64 (intOf (nth AC.dead o18 8)), AC.int IntKind.i64 (intOf (nth AC.dead o18 9)), AC.int IntKind.i64 (intOf (nth AC.dead o18 10)), AC.int IntKind.i64 (intOf (nth AC.dead o18 11)), AC.int IntKind.i64 (intOf (nth AC.dead o18 12)), AC.bool (boolOf (nth AC.dead o18 13)), AC.int IntKind.i64 (IntKind.i64.wrap (1 + intOf (nth AC.dead o21 0))), AC.bool true, AC.int IntKind.i64 (intOf (nth AC.dead o18 16)), AC.int IntKind.i64 (intOf (nth AC.dead o18 17)), AC.int IntKind.i64 0, AC.int IntKind.i64 0, AC.int IntKind.i64 (intOf (nth AC.dead o18 20)), AC.bool (boolOf (nth AC.dead o18 21)), AC.view [Kd.int IntKind.i64] (rowsOf (nth AC.dead o21 1)), AC.int IntKind.i64 (intOf (nth AC.dead o21 2))]
      else
       bif x3 == 6 then
        (M_cncmill_Source_Next [AC.int IntKind.i64 60, AC.view [Kd.int IntKind.i64] (rowsOf (nth AC.dead o20 1)), AC.int IntKind.i64 (intOf (nth AC.dead o20 2))]).bind fun o23 =>
        bif x3 == 6 then
         (M_cncmill_Source_Next [AC.int IntKind.i64 2, AC.view [Kd.int IntKind.i64] (rowsOf (nth AC.dead o23 1)), AC.int IntKind.i64 (intOf (nth AC.dead o23 2))]).bind fun o24 =>
         some [AC.int IntKind.i64 (intOf (nth AC.dead o18 0)), AC.int IntKind.i64 (intOf (nth AC.dead o18 1)), AC.int IntKind.i64 (intOf (nth AC.dead o18 2)), AC.int IntKind.i64 (intOf (nth AC.dead o18 3)), AC.int IntKind.i64 (intOf (nth AC.dead o18 4)), AC.int IntKind.i64 (intOf (nth AC.dead o18 5)), AC.int IntKind.i64 (intOf (nth AC.dead o18 6)), AC.int IntKind.i64 (intOf (nth AC.dead o18 7)), AC.int IntKind.i64 (intOf (nth AC.dead o18 8)), AC.int IntKind.i64 (intOf (nth AC.dead o18 9)), AC.int IntKind.i64 (intOf (nth AC.dead o18 10)), AC.int IntKind.i64 (intOf (nth AC.dead o18 11)), AC.int IntKind.i64 (intOf (nth AC.dead o18 12)), AC.bool (boolOf (nth AC.dead o18 13)), AC.int IntKind.i64 (IntKind.i64.wrap (1 + intOf (nth AC.dead o23 0))), AC.bool true, AC.int IntKind.i64 (intOf (nth AC.dead o18 16)), AC.int IntKind.i64 (intOf (nth AC.dead o18 17)), AC.int IntKind.i64 0, AC.int IntKind.i64 (IntKind.i64.wrap (3 + intOf (nth AC.dead o24 0))), AC.int IntKind.i64 (intOf (nth AC.dead o18 20)), AC.bool (boolOf (nth AC.dead o18 21)), AC.view [Kd.int IntKind.i64] (rowsOf (nth AC.dead o24 1)), AC.int IntKind.i64 (intOf (nth AC.dead o24 2))]
        else
         some [AC.int IntKind.i64 (intOf (nth AC.dead o18 0)), AC.int IntKind.i64 (intOf (nth AC.dead o18 1)), AC.int IntKind.i64 (intOf (nth AC.dead o18 2)), AC.int IntKind.i64 (intOf (nth AC.dead o18 3)), AC.int IntKind.i64 (intOf (nth AC.dead o18 4)), AC.int IntKind.i64 (intOf (nth AC.dead o18 5)), AC.int IntKind.i64 (intOf (nth AC.dead o18 6)), AC.int IntKind.i64 (intOf (nth AC.dead o18 7)), AC.int IntKind.i64 (intOf (nth AC.dead o18 8)), AC.int IntKind.i64 (intOf (nth AC.dead o18 9)), AC.int IntKind.i64 (intOf (nth AC.dead o18 10)), AC.int IntKind.i64 (intOf (nth AC.dead o18 11)), AC.int IntKind.i64 (intOf (nth AC.dead o18 12)), AC.bool (boolOf (nth AC.dead o18 13)), AC.int IntKind.i64 (IntKind.i64.wrap (1 + intOf (nth AC.dead o23 0))), AC.bool true, AC.int IntKind.i64 (intOf (nth AC.dead o18 16)), AC.int IntKind.i64 (intOf (nth AC.dead o18 17)), AC.int IntKind.i64 0, AC.int IntKind.i64 0, AC.int IntKind.i64 (intOf (nth AC.dead o18 20)), AC.bool (boolOf (nth AC.dead o18 21)), AC.view [Kd.int IntKind.i64] (rowsOf (nth AC.dead o23 1)), AC.int IntKind.i64 (intOf (nth AC.dead o23 2))]
       else
        bif x3 == 4 then
         some [AC.int IntKind.i64 (intOf (nth AC.dead o18 0)), AC.int IntKind.i64 (intOf (nth AC.dead o18 1)), AC.int IntKind.i64 (intOf (nth AC.dead o18 2)), AC.int IntKind.i64 (intOf (nth AC.dead o18 3)), AC.int IntKind.i64 (intOf (nth AC.dead o18 4)), AC.int IntKind.i64 (intOf (nth AC.dead o18 5)), AC.int IntKind.i64 (intOf (nth AC.dead o18 6)), AC.int IntKind.i64 (intOf (nth AC.dead o18 7)), AC.int IntKind.i64 (intOf (nth AC.dead o18 8)), AC.int IntKind.i64 (intOf (nth AC.dead o18 9)), AC.int IntKind.i64 (intOf (nth AC.dead o18 10)), AC.int IntKind.i64 (intOf (nth AC.dead o18 11)), AC.int IntKind.i64 (intOf (nth AC.dead o18 12)), AC.bool (boolOf (nth AC.dead o18 13)), AC.int IntKind.i64 (intOf (nth AC.dead (nth [] [[AC.int IntKind.i64 300000], [AC.int IntKind.i64 1], [AC.int IntKind.i64 60000], [AC.int IntKind.i64 2000000], [AC.int IntKind.i64 60000000]] (intOf (nth AC.dead o19 0)).toNat) 0)), AC.bool (boolOf (nth AC.dead o18 15)), AC.int IntKind.i64 (intOf (nth AC.dead o18 16)), AC.int IntKind.i64 (intOf (nth AC.dead o18 17)), AC.int IntKind.i64 0, AC.int IntKind.i64 (intOf (nth AC.dead o18 19)), AC.int IntKind.i64 (intOf (nth AC.dead o18 20)), AC.bool (boolOf (nth AC.dead o18 21)), AC.view [Kd.int IntKind.i64] (rowsOf (nth AC.dead o20 1)), AC.int IntKind.i64 (intOf (nth AC.dead o20 2))]
        else
         some [AC.int IntKind.i64 (intOf (nth AC.dead o18 0)), AC.int IntKind.i64 (intOf (nth AC.dead o18 1)), AC.int IntKind.i64 (intOf (nth AC.dead o18 2)), AC.int IntKind.i64 (intOf (nth AC.dead o18 3)), AC.int IntKind.i64 (intOf (nth AC.dead o18 4)), AC.int IntKind.i64 (intOf (nth AC.dead o18 5)), AC.int IntKind.i64 (intOf (nth AC.dead o18 6)), AC.int IntKind.i64 (intOf (nth AC.dead o18 7)), AC.int IntKind.i64 (intOf (nth AC.dead o18 8)), AC.int IntKind.i64 (intOf (nth AC.dead o18 9)), AC.int IntKind.i64 (intOf (nth AC.dead o18 10)), AC.int IntKind.i64 (intOf (nth AC.dead o18 11)), AC.int IntKind.i64 (intOf (nth AC.dead o18 12)), AC.bool (boolOf (nth AC.dead o18 13)), AC.int IntKind.i64 (intOf (nth AC.dead (nth [] [[AC.int IntKind.i64 300000], [AC.int IntKind.i64 1], [AC.int IntKind.i64 60000], [AC.int IntKind.i64 2000000], [AC.int IntKind.i64 60000000]] (intOf (nth AC.dead o19 0)).toNat) 0)), AC.bool (boolOf (nth AC.dead o18 15)), AC.int IntKind.i64 (intOf (nth AC.dead o18 16)), AC.int IntKind.i64 (intOf (nth AC.dead o18 17)), AC.int IntKind.i64 (intOf (nth AC.dead (nth [] [[AC.int IntKind.i64 0], [AC.int IntKind.i64 1], [AC.int IntKind.i64 2], [AC.int IntKind.i64 4], [AC.int IntKind.i64 9]] (intOf (nth AC.dead o20 0)).toNat) 0)), AC.int IntKind.i64 (intOf (nth AC.dead o18 19)), AC.int IntKind.i64 (intOf (nth AC.dead o18 20)), AC.bool (boolOf (nth AC.dead o18 21)), AC.view [Kd.int IntKind.i64] (rowsOf (nth AC.dead o20 1)), AC.int IntKind.i64 (intOf (nth AC.dead o20 2))]
     else
      none
    else
     none
  else
   (M_cncmill_Source_Next [AC.int IntKind.i64 25, AC.view [Kd.int IntKind.i64] x4, AC.int IntKind.i64 x5]).bind fun o25 =>
   (M_cncmill_Source_Next [AC.int IntKind.i64 25, AC.view [Kd.int IntKind.i64] (rowsOf (nth AC.dead o25 1)), AC.int IntKind.i64 (intOf (nth AC.dead o25 2))]).bind fun o26 =>
   (M_cncmill_Source_Next [AC.int IntKind.i64 3, AC.view [Kd.int IntKind.i64] (rowsOf (nth AC.dead o26 1)), AC.int IntKind.i64 (intOf (nth AC.dead o26 2))]).bind fun o27 =>
   (M_cncmill_Source_Next [AC.int IntKind.i64 9, AC.view [Kd.int IntKind.i64] (rowsOf (nth AC.dead o27 1)), AC.int IntKind.i64 (intOf (nth AC.dead o27 2))]).bind fun o28 =>
   (M_cncmill_Source_Next [AC.int IntKind.i64 2, AC.view [Kd.int IntKind.i64] (rowsOf (nth AC.dead o28 1)), AC.int IntKind.i64 (intOf (nth AC.dead o28 2))]).bind fun o29 =>
   bif x3 == 1 then
    some [AC.int IntKind.i64 x3, AC.int IntKind.i64 0, AC.int IntKind.i64 x0, AC.int IntKind.i64 x1, AC.int IntKind.i64 x2, AC.int IntKind.i64 (IntKind.i64.wrap (IntKind.i64.wrap (x0 + intOf (nth AC.dead o25 0)) - 12)), AC.int IntKind.i64 (IntKind.i64.wrap (IntKind.i64.wrap (x1 + intOf (nth AC.dead o26 0)) - 12)), AC.int IntKind.i64 (IntKind.i64.wrap (IntKind.i64.wrap (x2 + IntKind.i64.wrap (intOf (nth AC.dead o27 0) * intOf (nth AC.dead o28 0))) - IntKind.i64.wrap (8 * intOf (nth AC.dead o29 0)))), AC.int IntKind.i64 0, AC.int IntKind.i64 0, AC.int IntKind.i64 0, AC.int IntKind.i64 0, AC.int IntKind.i64 0, AC.bool false, AC.int IntKind.i64 0, AC.bool false, AC.int IntKind.i64 0, AC.int IntKind.i64 0, AC.int IntKind.i64 0, AC.int IntKind.i64 0, AC.int IntKind.i64 0, AC.bool false, AC.view [Kd.int IntKind.i64] (rowsOf (nth AC.dead o29 1)), AC.int IntKind.i64 (intOf (nth AC.dead o29 2))]
   else
    (M_cncmill_Source_Next [AC.int IntKind.i64 5, AC.view [Kd.int IntKind.i64] (rowsOf (nth AC.dead o29 1)), AC.int IntKind.i64 (intOf (nth AC.dead o29 2))]).bind fun o30 =>
    bif decide (0 ≤ intOf (nth AC.dead o30 0)) && decide (intOf (nth AC.dead o30 0) < (↑[[AC.int IntKind.i64 300000], [AC.int IntKind.i64 1], [AC.int IntKind.i64 60000], [AC.int IntKind.i64 2000000], [AC.int IntKind.i64 60000000]].length : Int)) then
     (M_cncmill_Source_Next [AC.int IntKind.i64 5, AC.view [Kd.int IntKind.i64] (rowsOf (nth AC.dead o30 1)), AC.int IntKind.i64 (intOf (nth AC.dead o30 2))]).bind fun o31 =>
     bif decide (0 ≤ intOf (nth AC.dead o31 0)) && decide (intOf (nth AC.dead o31 0) < (↑[[AC.int IntKind.i64 0], [AC.int IntKind.i64 1], [AC.int IntKind.i64 2], [AC.int IntKind.i64 4], [AC.int IntKind.i64 9]].length : Int)) then
      bif x3 == 5 then
       (M_cncmill_Source_Next [AC.int IntKind.i64 60, AC.view [Kd.int IntKind.i64] (rowsOf (nth AC.dead o31 1)), AC.int IntKind.i64 (intOf (nth AC.dead o31 2))]).bind fun o32 =>
       bif x3 == 6 then
        (M_cncmill_Source_Next [AC.int IntKind.i64 2, AC.view [Kd.int IntKind.i64] (rowsOf (nth AC.dead o32 1)), AC.int IntKind.i64 (intOf (nth AC.dead o32 2))]).bind fun o33 =>
        some [AC.int IntKind.i64 x3, AC.int IntKind.i64 0, AC.int IntKind.i64 x0, AC.int IntKind.i64 x1, AC.int IntKind.i64 x2, AC.int IntKind.i64 (IntKind.i64.wrap (IntKind.i64.wrap (x0 + intOf (nth AC.dead o25 0)) - 12)), AC.int IntKind.i64 (IntKind.i64.wrap (IntKind.i64.wrap (x1 + intOf (nth AC.dead o26 0)) - 12)), AC.int IntKind.i64 (IntKind.i64.wrap (IntKind.i64.wrap (x2 + IntKind.i64.wrap (intOf (nth AC.dead o27 0) * intOf (nth AC.dead o28 0))) - IntKind.i64.wrap (8 * intOf (nth AC.dead o29 0)))), AC.int IntKind.i64 0, AC.int IntKind.i64 0, AC.int IntKind.i64 0, AC.int IntKind.i64 0, AC.int IntKind.i64 0, AC.bool false, AC.int IntKind.i64 (IntKind.i64.wrap (1 + intOf (nth AC.dead o32 0))), AC.bool true, AC.int IntKind.i64 0, AC.int IntKind.i64 0, AC.int IntKind.i64 0, AC.int IntKind.i64 (IntKind.i64.wrap (3 + intOf (nth AC.dead o33 0))), AC.int IntKind.i64 0, AC.bool false, AC.view [Kd.int IntKind.i64] (rowsOf (nth AC.dead o33 1)), AC.int IntKind.i64 (intOf (nth AC.dead o33 2))]
       else
        some [AC.int IntKind.i64 x3, AC.int IntKind.i64 0, AC.int IntKind.i64 x0, AC.int IntKind.i64 x1, AC.int IntKind.i64 x2, AC.int IntKind.i64 (IntKind.i64.wrap (IntKind.i64.wrap (x0 + intOf (nth AC.dead o25 0)) - 12)), AC.int IntKind.i64 (IntKind.i64.wrap (IntKind.i64.wrap (x1 + intOf (nth AC.dead o26 0)) - 12)), AC.int IntKind.i64 (IntKind.i64.wrap (IntKind.i64.wrap (x2 + IntKind.i64.wrap (intOf (nth AC.dead o27 0) * intOf (nth AC.dead o28 0))) - IntKind.i64.wrap (8 * intOf (nth AC.dead o29 0)))), AC.int IntKind.i64 0, AC.int IntKind.i64 0, AC.int IntKind.i64 0, AC.int IntKind.i64 0, AC.int IntKind.i64 0, AC.bool false, AC.int IntKind.i64 (IntKind.i64.wrap (1 + intOf (nth AC.dead o32 0))), AC.bool true, AC.int IntKind.i64 0, AC.int IntKind.i64 0, AC.int IntKind.i64 0, AC.int IntKind.i64 0, AC.int IntKind.i64 0, AC.bool false, AC.view [Kd.int IntKind.i64] (rowsOf (nth AC.dead o32 1)), AC.int IntKind.i64 (intOf (nth AC.dead o32 2))]
      else
       bif x3 == 6 then
        (M_cncmill_Source_Next [AC.int IntKind.i64 60, AC.view [Kd.int IntKind.i64] (rowsOf (nth AC.dead o31 1)), AC.int IntKind.i64 (intOf (nth AC.dead o31 2))]).bind fun o34 =>
        bif x3 == 6 then
         (M_cncmill_Source_Next [AC.int IntKind.i64 2, AC.view [Kd.int IntKind.i64] (rowsOf (nth AC.dead o34 1)), AC.int IntKind.i64 (intOf (nth AC.dead o34 2))]).bind fun o35 =>
         some [AC.int IntKind.i64 x3, AC.int IntKind.i64 0, AC.int IntKind.i64 x0, AC.int IntKind.i64 x1, AC.int IntKind.i64 x2, AC.int IntKind.i64 (IntKind.i64.wrap (IntKind.i64.wrap (x0 + intOf (nth AC.dead o25 0)) - 12)), AC.int IntKind.i64 (IntKind.i64.wrap (IntKind.i64.wrap (x1 + intOf (nth AC.dead o26 0)) - 12)), AC.int IntKind.i64 (IntKind.i64.wrap (IntKind.i64.wrap (x2 + IntKind.i64.wrap (intOf (nth AC.dead o27 0) * intOf (nth AC.dead o28 0))) - IntKind.i64.wrap (8 * intOf (nth AC.dead o29 0)))), AC.int IntKind.i64 0, AC.int IntKind.i64 0, AC.int IntKind.i64 0, AC.int IntKind.i64 0, AC.int IntKind.i64 0, AC.bool false, AC.int IntKind.i64 (IntKind.i64.wrap (1 + intOf (nth AC.dead o34 0))), AC.bool true, AC.int IntKind.i64 0, AC.int IntKind.i64 0, AC.int IntKind.i64 0, AC.int IntKind.i64 (IntKind.i64.wrap (3 + intOf (nth AC.dead o35 0))), AC.int IntKind.i64 0, AC.bool false, AC.view [Kd.int IntKind.i64] (rowsOf (nth AC.dead o35 1)), AC.int IntKind.i64 (intOf (nth AC.dead o35 2))]
        else
         some [AC.int IntKind.i64 x3, AC.int IntKind.i64 0, AC.int IntKind.i64 x0, AC.int IntKind.i64 x1, AC.int IntKind.i64 x2, AC.int IntKind.i64 (IntKind.i64.wrap (IntKind.i64.wrap (x0 + intOf (nth AC.dead o25 0)) - 12)), AC.int IntKind.i64 (IntKind.i64.wrap (IntKind.i64.wrap (x1 + intOf (nth AC.dead o26 0)) - 12)), AC.int IntKind.i64 (IntKind.i64.wrap (IntKind.i64.wrap (x2 + IntKind.i64.wrap (intOf (nth AC.dead o27 0) * intOf (nth AC.dead o28 0))) - IntKind.i64.wrap (8 * intOf (nth AC.dead o29 0)))), AC.int IntKind.i64 0, AC.int IntKind.i64 0, AC.int IntKind.i64 0, AC.int IntKind.i64 0, AC.int IntKind.i64 0, AC.bool false, AC.int IntKind.i64 (IntKind.i64.wrap (1 + intOf (nth AC.dead o34 0))), AC.bool true, AC.int IntKind.i64 0, AC.int IntKind.i64 0, AC.int IntKind.i64 0, AC.int IntKind.i64 0, AC.int IntKind.i64 0, AC.bool false, AC.view [Kd.int IntKind.i64] (rowsOf (nth AC.dead o34 1)), AC.int IntKind.i64 (intOf (nth AC.dead o34 2))]
       else
        bif x3 == 4 then
         some [AC.int IntKind.i64 x3, AC.int IntKind.i64 0, AC.int IntKind.i64 x0, AC.int IntKind.i64 x1, AC.int IntKind.i64 x2, AC.int IntKind.i64 (IntKind.i64.wrap (IntKind.i64.wrap (x0 + intOf (nth AC.dead o25 0)) - 12)), AC.int IntKind.i64 (IntKind.i64.wrap (IntKind.i64.wrap (x1 + intOf (nth AC.dead o26 0)) - 12)), AC.int IntKind.i64 (IntKind.i64.wrap (IntKind.i64.wrap (x2 + IntKind.i64.wrap (intOf (nth AC.dead o27 0) * intOf (nth AC.dead o28 0))) - IntKind.i64.wrap (8 * intOf (nth AC.dead o29 0)))), AC.int IntKind.i64 0, AC.int IntKind.i64 0, AC.int IntKind.i64 0, AC.int IntKind.i64 0, AC.int IntKind.i64 0, AC.bool false, AC.int IntKind.i64 (intOf (nth AC.dead (nth [] [[AC.int IntKind.i64 300000], [AC.int IntKind.i64 1], [AC.int IntKind.i64 60000], [AC.int IntKind.i64 2000000], [AC.int IntKind.i64 60000000]] (intOf (nth AC.dead o30 0)).toNat) 0)), AC.bool false, AC.int IntKind.i64 0, AC.int IntKind.i64 0, AC.int IntKind.i64 0, AC.int IntKind.i64 0, AC.int IntKind.i64 0, AC.bool false, AC.view [Kd.int IntKind.i64] (rowsOf (nth AC.dead o31 1)), AC.int IntKind.i64 (intOf (nth AC.dead o31 2))]
        else
         some [AC.int IntKind.i64 x3, AC.int IntKind.i64 0, AC.int IntKind.i64 x0, AC.int IntKind.i64 x1, AC.int IntKind.i64 x2, AC.int IntKind.i64 (IntKind.i64.wrap (IntKind.i64.wrap (x0 + intOf (nth AC.dead o25 0)) - 12)), AC.int IntKind.i64 (IntKind.i64.wrap (IntKind.i64.wrap (x1 + intOf (nth AC.dead o26 0)) - 12)), AC.int IntKind.i64 (IntKind.i64.wrap (IntKind.i64.wrap (x2 + IntKind.i64.wrap (intOf (nth AC.dead o27 0) * intOf (nth AC.dead o28 0))) - IntKind.i64.wrap (8 * intOf (nth AC.dead o29 0)))), AC.int IntKind.i64 0, AC.int IntKind.i64 0, AC.int IntKind.i64 0, AC.int IntKind.i64 0, AC.int IntKind.i64 0, AC.bool false, AC.int IntKind.i64 (intOf (nth AC.dead (nth [] [[AC.int IntKind.i64 300000], [AC.int IntKind.i64 1], [AC.int IntKind.i64 60000], [AC.int IntKind.i64 2000000], [AC.int IntKind.i64 60000000]] (intOf (nth AC.dead o30 0)).toNat) 0)), AC.bool false, AC.int IntKind.i64 0, AC.int IntKind.i64 0, AC.int IntKind.i64 (intOf (nth AC.dead (nth [] [[AC.int IntKind.i64 0], [AC.int IntKind.i64 1], [AC.int IntKind.i64 2], [AC.int IntKind.i64 4], [AC.int IntKind.i64 9]] (intOf (nth AC.dead o31 0)).toNat) 0)), AC.int IntKind.i64 0, AC.int IntKind.i64 0, AC.bool false, AC.view [Kd.int IntKind.i64] (rowsOf (nth AC.dead o31 1)), AC.int IntKind.i64 (intOf (nth AC.dead o31 2))]
     else
      none
    else
     none := by kernel_rfl
noncomputable def m_cncmill_motion := mf_cncmill_motion m_cncmill_Source_Next m_cncmill_arc 
theorem sp_cncmill_motion : SpecOK Try.prog (C_cncmill_motion_0 m_cncmill_Source_Next m_cncmill_arc) := specOK_of rfl ⟨r_cncmill_Source_Next, r_cncmill_arc, trivial⟩
theorem r_cncmill_motion : RowOK Try.prog (79, spOf sig_cncmill_motion osig_cncmill_motion m_cncmill_motion) := row_of (C := (C_cncmill_motion_0 m_cncmill_Source_Next m_cncmill_arc)) (L := 64) (sig := sig_cncmill_motion) (osig := osig_cncmill_motion) (by kernel_rfl) (FnOK.bare rfl rfl rfl) sp_cncmill_motion eqOk mixOk (by kernel_rfl) (by kernel_rfl)
def sig_cncmill_Source_Left : Sk := { tmps := [TS.v false [CS.ptr 20000 0]], boxes := [(20000, 138, [CS.sl [Kd.int .i64], CS.int .i64])], rows := [] }
def osig_cncmill_Source_Left : Sk := { tmps := [TS.v false [CS.bool]], boxes := [(20000, 138, [CS.sl [Kd.int .i64], CS.int .i64])], rows := [] }
noncomputable def C_cncmill_Source_Left_0  : Cfg := { spec := lookS [], eqOk := eqAll, ownOff := ownOff }
noncomputable def mf_cncmill_Source_Left   : List AC → Option (List AC) := modelF Try.prog C_cncmill_Source_Left_0 64 78 sig_cncmill_Source_Left osig_cncmill_Source_Left
theorem mf_cncmill_Source_Left_eq   (x0 : List (List AC)) (x1 : Int) : mf_cncmill_Source_Left   [AC.view [Kd.int .i64] x0, AC.int .i64 x1] =
  some [AC.bool (decide (x1 < (↑x0.length : Int))), AC.view [Kd.int IntKind.i64] x0, AC.int IntKind.i64 x1] := by kernel_rfl
noncomputable def m_cncmill_Source_Left := mf_cncmill_Source_Left  
theorem sp_cncmill_Source_Left : SpecOK Try.prog (C_cncmill_Source_Left_0 ) := specOK_of rfl trivial
theorem r_cncmill_Source_Left : RowOK Try.prog (78, spOf sig_cncmill_Source_Left osig_cncmill_Source_Left m_cncmill_Source_Left) := row_of (C := C_cncmill_Source_Left_0) (L := 64) (sig := sig_cncmill_Source_Left) (osig := osig_cncmill_Source_Left) (by kernel_rfl) (FnOK.bare rfl rfl rfl) sp_cncmill_Source_Left eqOk mixOk (by kernel_rfl) (by kernel_rfl)
def sig_cncmill_From : Sk := { tmps := [TS.v false [CS.sl [Kd.int .i64]]], boxes := [], rows := [] }
def osig_cncmill_From : Sk := { tmps := [TS.v false [CS.ptr 5 0]], boxes := [(5, 138, [CS.sl [Kd.int .i64], CS.int .i64])], rows := [] }
noncomputable def C_cncmill_From_0  : Cfg := { spec := lookS [], eqOk := eqAll, ownOff := ownOff }
noncomputable def mf_cncmill_From   : List AC → Option (List AC) := modelF Try.prog C_cncmill_From_0 64 59 sig_cncmill_From osig_cncmill_From
theorem mf_cncmill_From_eq   (x0 : List (List AC)) : mf_cncmill_From   [AC.view [Kd.int .i64] x0] =
  some [AC.view [Kd.int IntKind.i64] x0, AC.int IntKind.i64 0] := by kernel_rfl
noncomputable def m_cncmill_From := mf_cncmill_From  
theorem sp_cncmill_From : SpecOK Try.prog (C_cncmill_From_0 ) := specOK_of rfl trivial
theorem r_cncmill_From : RowOK Try.prog (59, spOf sig_cncmill_From osig_cncmill_From m_cncmill_From) := row_of (C := C_cncmill_From_0) (L := 64) (sig := sig_cncmill_From) (osig := osig_cncmill_From) (by kernel_rfl) (FnOK.bare rfl rfl rfl) sp_cncmill_From eqOk mixOk (by kernel_rfl) (by kernel_rfl)
def sig_cncmill_Motions : Sk := { tmps := [TS.v false [CS.sl [Kd.int .i64]], TS.v false [CS.int .i64]], boxes := [], rows := [] }
def osig_cncmill_Motions : Sk := { tmps := [TS.v false [CS.sl [Kd.int .i64, Kd.int .i64, Kd.int .i64, Kd.int .i64, Kd.int .i64, Kd.int .i64, Kd.int .i64, Kd.int .i64, Kd.int .i64, Kd.int .i64, Kd.int .i64, Kd.int .i64, Kd.int .i64, Kd.bool, Kd.int .i64, Kd.bool, Kd.int .i64, Kd.int .i64, Kd.int .i64, Kd.int .i64, Kd.int .i64, Kd.bool]]], boxes := [], rows := [] }
noncomputable def C_cncmill_Motions_0 (M_cncmill_motion : List AC → Option (List AC)) (M_cncmill_Source_Left : List AC → Option (List AC)) (M_cncmill_Source_Next : List AC → Option (List AC)) (M_cncmill_From : List AC → Option (List AC)) : Cfg := { spec := lookS [(79, spOf sig_cncmill_motion osig_cncmill_motion M_cncmill_motion), (78, spOf sig_cncmill_Source_Left osig_cncmill_Source_Left M_cncmill_Source_Left), (61, spOf sig_cncmill_Source_Next osig_cncmill_Source_Next M_cncmill_Source_Next), (59, spOf sig_cncmill_From osig_cncmill_From M_cncmill_From)], eqOk := eqAll, pure := fun f => !(elemN [79, 78, 61, 59] f), ownOff := ownOff, prom := fun b => bif Nat.beq b 4 then [(6, 33)] else [] }
def sk_cncmill_Motions_4 : Sk := { tmps := [TS.dead, TS.v false [CS.int .i64], TS.dead, TS.dead, TS.dead, TS.v false [CS.ptr 101000 0], TS.v false [CS.own 6 22], TS.v false [CS.ptr 7 0]] ++ dd 36, boxes := [(7, 31, [CS.int .i64, CS.int .i64, CS.int .i64]), (101000, 138, [CS.sl [Kd.int .i64], CS.int .i64])], rows := [(6, 33, [Kd.int .i64, Kd.int .i64, Kd.int .i64, Kd.int .i64, Kd.int .i64, Kd.int .i64, Kd.int .i64, Kd.int .i64, Kd.int .i64, Kd.int .i64, Kd.int .i64, Kd.int .i64, Kd.int .i64, Kd.bool, Kd.int .i64, Kd.bool, Kd.int .i64, Kd.int .i64, Kd.int .i64, Kd.int .i64, Kd.int .i64, Kd.bool])] }
def ex_cncmill_Motions_4 : List (Ex × Sk) := [(Ex.exit 0, { tmps := [TS.dead, TS.dead, TS.dead, TS.dead, TS.dead, TS.dead, TS.v false [CS.own 6 22]] ++ dd 37, boxes := [], rows := [(6, 33, [Kd.int .i64, Kd.int .i64, Kd.int .i64, Kd.int .i64, Kd.int .i64, Kd.int .i64, Kd.int .i64, Kd.int .i64, Kd.int .i64, Kd.int .i64, Kd.int .i64, Kd.int .i64, Kd.int .i64, Kd.bool, Kd.int .i64, Kd.bool, Kd.int .i64, Kd.int .i64, Kd.int .i64, Kd.int .i64, Kd.int .i64, Kd.bool])] })]
noncomputable def st_cncmill_Motions_4 (M_cncmill_motion : List AC → Option (List AC)) (M_cncmill_Source_Left : List AC → Option (List AC)) (M_cncmill_Source_Next : List AC → Option (List AC)) (M_cncmill_From : List AC → Option (List AC))  : List AC → Option (Nat × List AC) := stepL Try.prog (C_cncmill_Motions_0 M_cncmill_motion M_cncmill_Source_Left M_cncmill_Source_Next M_cncmill_From) 64 4 (bodyOf Try.prog 28 4) sk_cncmill_Motions_4 ex_cncmill_Motions_4
noncomputable def C_cncmill_Motions_1 (M_cncmill_motion : List AC → Option (List AC)) (M_cncmill_Source_Left : List AC → Option (List AC)) (M_cncmill_Source_Next : List AC → Option (List AC)) (M_cncmill_From : List AC → Option (List AC))  (N4 : List AC → Option (Nat × List AC)) : Cfg := (C_cncmill_Motions_0 M_cncmill_motion M_cncmill_Source_Left M_cncmill_Source_Next M_cncmill_From).loop 4 sk_cncmill_Motions_4 ex_cncmill_Motions_4 N4
noncomputable def mf_cncmill_Motions (M_cncmill_motion : List AC → Option (List AC)) (M_cncmill_Source_Left : List AC → Option (List AC)) (M_cncmill_Source_Next : List AC → Option (List AC)) (M_cncmill_From : List AC → Option (List AC))  (N4 : List AC → Option (Nat × List AC)) : List AC → Option (List AC) := modelF Try.prog (C_cncmill_Motions_1 M_cncmill_motion M_cncmill_Source_Left M_cncmill_Source_Next M_cncmill_From N4) 64 28 sig_cncmill_Motions osig_cncmill_Motions
theorem st_cncmill_Motions_4_eq (M_cncmill_motion : List AC → Option (List AC)) (M_cncmill_Source_Left : List AC → Option (List AC)) (M_cncmill_Source_Next : List AC → Option (List AC)) (M_cncmill_From : List AC → Option (List AC))  (v0 : List (List AC)) (v1 : Int) (v2 : Int) (v3 : Int) (v4 : Int) (v5 : List (List AC)) (v6 : Int) : st_cncmill_Motions_4 M_cncmill_motion M_cncmill_Source_Left M_cncmill_Source_Next M_cncmill_From  [AC.view [Kd.int .i64, Kd.int .i64, Kd.int .i64, Kd.int .i64, Kd.int .i64, Kd.int .i64, Kd.int .i64, Kd.int .i64, Kd.int .i64, Kd.int .i64, Kd.int .i64, Kd.int .i64, Kd.int .i64, Kd.bool, Kd.int .i64, Kd.bool, Kd.int .i64, Kd.int .i64, Kd.int .i64, Kd.int .i64, Kd.int .i64, Kd.bool] v0, AC.int .i64 v1, AC.int .i64 v2, AC.int .i64 v3, AC.int .i64 v4, AC.view [Kd.int .i64] v5, AC.int .i64 v6] =
  bif decide ((↑v0.length : Int) < v1) then
   (M_cncmill_Source_Left [AC.view [Kd.int IntKind.i64] v5, AC.int IntKind.i64 v6]).bind fun o19 =>
   bif boolOf (nth AC.dead o19 0) then
    (M_cncmill_Source_Next [AC.int IntKind.i64 5, AC.view [Kd.int IntKind.i64] (rowsOf (nth AC.dead o19 1)), AC.int IntKind.i64 (intOf (nth AC.dead o19 2))]).bind fun o20 =>
    bif decide (0 ≤ intOf (nth AC.dead o20 0)) && decide (intOf (nth AC.dead o20 0) < (↑[[AC.int IntKind.i64 2], [AC.int IntKind.i64 2], [AC.int IntKind.i64 2], [AC.int IntKind.i64 3], [AC.int IntKind.i64 1]].length : Int)) then
     (M_cncmill_motion [AC.int IntKind.i64 v2, AC.int IntKind.i64 v3, AC.int IntKind.i64 v4, AC.int IntKind.i64 (intOf (nth AC.dead (nth [] [[AC.int IntKind.i64 2], [AC.int IntKind.i64 2], [AC.int IntKind.i64 2], [AC.int IntKind.i64 3], [AC.int IntKind.i64 1]] (intOf (nth AC.dead o20 0)).toNat) 0)), AC.view [Kd.int IntKind.i64] (rowsOf (nth AC.dead o20 1)), AC.int IntKind.i64 (intOf (nth AC.dead o20 2))]).bind fun o21 =>
     bif ((v0 ++ [[AC.int IntKind.i64 (intOf (nth AC.dead o21 0)), AC.int IntKind.i64 (intOf (nth AC.dead o21 1)), AC.int IntKind.i64 (intOf (nth AC.dead o21 2)), AC.int IntKind.i64 (intOf (nth AC.dead o21 3)), AC.int IntKind.i64 (intOf (nth AC.dead o21 4)), AC.int IntKind.i64 (intOf (nth AC.dead o21 5)), AC.int IntKind.i64 (intOf (nth AC.dead o21 6)), AC.int IntKind.i64 (intOf (nth AC.dead o21 7)), AC.int IntKind.i64 (intOf (nth AC.dead o21 8)), AC.int IntKind.i64 (intOf (nth AC.dead o21 9)), AC.int IntKind.i64 (intOf (nth AC.dead o21 10)), AC.int IntKind.i64 (intOf (nth AC.dead o21 11)), AC.int IntKind.i64 (intOf (nth AC.dead o21 12)), AC.bool (boolOf (nth AC.dead o21 13)), AC.int IntKind.i64 (intOf (nth AC.dead o21 14)), AC.bool (boolOf (nth AC.dead o21 15)), AC.int IntKind.i64 (intOf (nth AC.dead o21 16)), AC.int IntKind.i64 (intOf (nth AC.dead o21 17)), AC.int IntKind.i64 (intOf (nth AC.dead o21 18)), AC.int IntKind.i64 (intOf (nth AC.dead o21 19)), AC.int IntKind.i64 (intOf (nth AC.dead o21 20)), AC.bool (boolOf (nth AC.dead o21 21))]]).length * 176).ble 140737488355328 then
      some (0, [AC.view [Kd.int IntKind.i64, Kd.int IntKind.i64, Kd.int IntKind.i64, Kd.int IntKind.i64, Kd.int IntKind.i64, Kd.int IntKind.i64, Kd.int IntKind.i64, Kd.int IntKind.i64, Kd.int IntKind.i64, Kd.int IntKind.i64, Kd.int IntKind.i64, Kd.int IntKind.i64, Kd.int IntKind.i64, Kd.bool, Kd.int IntKind.i64, Kd.bool, Kd.int IntKind.i64, Kd.int IntKind.i64, Kd.int IntKind.i64, Kd.int IntKind.i64, Kd.int IntKind.i64, Kd.bool] (v0 ++ [[AC.int IntKind.i64 (intOf (nth AC.dead o21 0)), AC.int IntKind.i64 (intOf (nth AC.dead o21 1)), AC.int IntKind.i64 (intOf (nth AC.dead o21 2)), AC.int IntKind.i64 (intOf (nth AC.dead o21 3)), AC.int IntKind.i64 (intOf (nth AC.dead o21 4)), AC.int IntKind.i64 (intOf (nth AC.dead o21 5)), AC.int IntKind.i64 (intOf (nth AC.dead o21 6)), AC.int IntKind.i64 (intOf (nth AC.dead o21 7)), AC.int IntKind.i64 (intOf (nth AC.dead o21 8)), AC.int IntKind.i64 (intOf (nth AC.dead o21 9)), AC.int IntKind.i64 (intOf (nth AC.dead o21 10)), AC.int IntKind.i64 (intOf (nth AC.dead o21 11)), AC.int IntKind.i64 (intOf (nth AC.dead o21 12)), AC.bool (boolOf (nth AC.dead o21 13)), AC.int IntKind.i64 (intOf (nth AC.dead o21 14)), AC.bool (boolOf (nth AC.dead o21 15)), AC.int IntKind.i64 (intOf (nth AC.dead o21 16)), AC.int IntKind.i64 (intOf (nth AC.dead o21 17)), AC.int IntKind.i64 (intOf (nth AC.dead o21 18)), AC.int IntKind.i64 (intOf (nth AC.dead o21 19)), AC.int IntKind.i64 (intOf (nth AC.dead o21 20)), AC.bool (boolOf (nth AC.dead o21 21))]]), AC.int IntKind.i64 v1, AC.int IntKind.i64 (intOf (nth AC.dead o21 5)), AC.int IntKind.i64 (intOf (nth AC.dead o21 6)), AC.int IntKind.i64 (intOf (nth AC.dead o21 7)), AC.view [Kd.int IntKind.i64] (rowsOf (nth AC.dead o21 22)), AC.int IntKind.i64 (intOf (nth AC.dead o21 23))])
     else
      none
    else
     none
   else
    some (1, [AC.view [Kd.int IntKind.i64, Kd.int IntKind.i64, Kd.int IntKind.i64, Kd.int IntKind.i64, Kd.int IntKind.i64, Kd.int IntKind.i64, Kd.int IntKind.i64, Kd.int IntKind.i64, Kd.int IntKind.i64, Kd.int IntKind.i64, Kd.int IntKind.i64, Kd.int IntKind.i64, Kd.int IntKind.i64, Kd.bool, Kd.int IntKind.i64, Kd.bool, Kd.int IntKind.i64, Kd.int IntKind.i64, Kd.int IntKind.i64, Kd.int IntKind.i64, Kd.int IntKind.i64, Kd.bool] v0])
  else
   some (1, [AC.view [Kd.int IntKind.i64, Kd.int IntKind.i64, Kd.int IntKind.i64, Kd.int IntKind.i64, Kd.int IntKind.i64, Kd.int IntKind.i64, Kd.int IntKind.i64, Kd.int IntKind.i64, Kd.int IntKind.i64, Kd.int IntKind.i64, Kd.int IntKind.i64, Kd.int IntKind.i64, Kd.int IntKind.i64, Kd.bool, Kd.int IntKind.i64, Kd.bool, Kd.int IntKind.i64, Kd.int IntKind.i64, Kd.int IntKind.i64, Kd.int IntKind.i64, Kd.int IntKind.i64, Kd.bool] v0]) := by kernel_rfl
theorem mf_cncmill_Motions_eq (M_cncmill_motion : List AC → Option (List AC)) (M_cncmill_Source_Left : List AC → Option (List AC)) (M_cncmill_Source_Next : List AC → Option (List AC)) (M_cncmill_From : List AC → Option (List AC))  (N4 : List AC → Option (Nat × List AC)) (x0 : List (List AC)) (x1 : Int) : mf_cncmill_Motions M_cncmill_motion M_cncmill_Source_Left M_cncmill_Source_Next M_cncmill_From  N4 [AC.view [Kd.int .i64] x0, AC.int .i64 x1] =
  (M_cncmill_From [AC.view [Kd.int IntKind.i64] x0]).bind fun o22 =>
  (M_cncmill_Source_Next [AC.int IntKind.i64 9, AC.view [Kd.int IntKind.i64] (rowsOf (nth AC.dead o22 0)), AC.int IntKind.i64 (intOf (nth AC.dead o22 1))]).bind fun o23 =>
  (M_cncmill_Source_Next [AC.int IntKind.i64 9, AC.view [Kd.int IntKind.i64] (rowsOf (nth AC.dead o23 1)), AC.int IntKind.i64 (intOf (nth AC.dead o23 2))]).bind fun o24 =>
  (M_cncmill_Source_Next [AC.int IntKind.i64 9, AC.view [Kd.int IntKind.i64] (rowsOf (nth AC.dead o24 1)), AC.int IntKind.i64 (intOf (nth AC.dead o24 2))]).bind fun o25 =>
  (N4 [AC.view [Kd.int IntKind.i64, Kd.int IntKind.i64, Kd.int IntKind.i64, Kd.int IntKind.i64, Kd.int IntKind.i64, Kd.int IntKind.i64, Kd.int IntKind.i64, Kd.int IntKind.i64, Kd.int IntKind.i64, Kd.int IntKind.i64, Kd.int IntKind.i64, Kd.int IntKind.i64, Kd.int IntKind.i64, Kd.bool, Kd.int IntKind.i64, Kd.bool, Kd.int IntKind.i64, Kd.int IntKind.i64, Kd.int IntKind.i64, Kd.int IntKind.i64, Kd.int IntKind.i64, Kd.bool] [], AC.int IntKind.i64 x1, AC.int IntKind.i64 (IntKind.i64.wrap (intOf (nth AC.dead o23 0) - 4)), AC.int IntKind.i64 (IntKind.i64.wrap (intOf (nth AC.dead o24 0) - 4)), AC.int IntKind.i64 (IntKind.i64.wrap (intOf (nth AC.dead o25 0) - 4)), AC.view [Kd.int IntKind.i64] (rowsOf (nth AC.dead o25 1)), AC.int IntKind.i64 (intOf (nth AC.dead o25 2))]).bind fun o26 =>
  bif o26.fst.beq 1 then
   some [AC.view [Kd.int IntKind.i64, Kd.int IntKind.i64, Kd.int IntKind.i64, Kd.int IntKind.i64, Kd.int IntKind.i64, Kd.int IntKind.i64, Kd.int IntKind.i64, Kd.int IntKind.i64, Kd.int IntKind.i64, Kd.int IntKind.i64, Kd.int IntKind.i64, Kd.int IntKind.i64, Kd.int IntKind.i64, Kd.bool, Kd.int IntKind.i64, Kd.bool, Kd.int IntKind.i64, Kd.int IntKind.i64, Kd.int IntKind.i64, Kd.int IntKind.i64, Kd.int IntKind.i64, Kd.bool] (rowsOf (nth AC.dead o26.snd 0))]
  else
   none := by kernel_rfl
noncomputable def l_cncmill_Motions_4 := loopC (st_cncmill_Motions_4 m_cncmill_motion m_cncmill_Source_Left m_cncmill_Source_Next m_cncmill_From )
noncomputable def m_cncmill_Motions := mf_cncmill_Motions m_cncmill_motion m_cncmill_Source_Left m_cncmill_Source_Next m_cncmill_From  l_cncmill_Motions_4
theorem sp_cncmill_Motions : SpecOK Try.prog (C_cncmill_Motions_0 m_cncmill_motion m_cncmill_Source_Left m_cncmill_Source_Next m_cncmill_From) := specOK_of rfl ⟨r_cncmill_motion, r_cncmill_Source_Left, r_cncmill_Source_Next, r_cncmill_From, trivial⟩
theorem r_cncmill_Motions : RowOK Try.prog (28, spOf sig_cncmill_Motions osig_cncmill_Motions m_cncmill_Motions) := row_of (C := (C_cncmill_Motions_1 m_cncmill_motion m_cncmill_Source_Left m_cncmill_Source_Next m_cncmill_From l_cncmill_Motions_4)) (L := 64) (sig := sig_cncmill_Motions) (osig := osig_cncmill_Motions) (by kernel_rfl) ((FnOK.bare rfl rfl rfl).loop sp_cncmill_Motions eqOk mixOk (by kernel_rfl) (by kernel_rfl)) sp_cncmill_Motions eqOk mixOk (by kernel_rfl) (by kernel_rfl)
def sig_contour_OnItems : Sk := { tmps := [TS.v false [CS.sl [Kd.int .i64, Kd.int .i64, Kd.int .i64, Kd.int .i64, Kd.int .i64, Kd.int .i64, Kd.int .i64, Kd.int .i64, Kd.int .i64, Kd.int .i64, Kd.int .i64, Kd.int .i64, Kd.int .i64, Kd.bool, Kd.int .i64, Kd.bool, Kd.int .i64, Kd.int .i64, Kd.int .i64, Kd.int .i64, Kd.int .i64, Kd.bool]], TS.v true [CS.int .i64, CS.int .i64, CS.int .i64], TS.v false [CS.int .i64]], boxes := [], rows := [] }
def osig_contour_OnItems : Sk := { tmps := [TS.v false [CS.bool]], boxes := [], rows := [] }
noncomputable def C_contour_OnItems_0 (M_contour_OnItem : List AC → Option (List AC)) : Cfg := { spec := lookS [(29, spOf sig_contour_OnItem osig_contour_OnItem M_contour_OnItem)], eqOk := eqAll, ownOff := ownOff }
def sk_contour_OnItems_2 : Sk := { tmps := [TS.dead, TS.dead, TS.v false [CS.int .i64], TS.dead, TS.v false [CS.ptr 4 0], TS.dead, TS.dead, TS.dead, TS.dead, TS.v false [CS.sl [Kd.int .i64, Kd.int .i64, Kd.int .i64, Kd.int .i64, Kd.int .i64, Kd.int .i64, Kd.int .i64, Kd.int .i64, Kd.int .i64, Kd.int .i64, Kd.int .i64, Kd.int .i64, Kd.int .i64, Kd.bool, Kd.int .i64, Kd.bool, Kd.int .i64, Kd.int .i64, Kd.int .i64, Kd.int .i64, Kd.int .i64, Kd.bool]], TS.v false [CS.int .i64], TS.v false [CS.int .i64]] ++ dd 8, boxes := [(4, 23, [CS.int .i64, CS.int .i64, CS.int .i64])], rows := [] }
def ex_contour_OnItems_2 : List (Ex × Sk) := [(Ex.ret, { tmps := [TS.dead, TS.dead, TS.dead, TS.dead, TS.dead, TS.dead, TS.v false [CS.bool]] ++ dd 13, boxes := [], rows := [] }), (Ex.exit 0, { tmps := [TS.dead] ++ dd 19, boxes := [], rows := [] })]
noncomputable def st_contour_OnItems_2 (M_contour_OnItem : List AC → Option (List AC))  : List AC → Option (Nat × List AC) := stepL Try.prog (C_contour_OnItems_0 M_contour_OnItem) 64 2 (bodyOf Try.prog 30 2) sk_contour_OnItems_2 ex_contour_OnItems_2
noncomputable def C_contour_OnItems_1 (M_contour_OnItem : List AC → Option (List AC))  (N2 : List AC → Option (Nat × List AC)) : Cfg := (C_contour_OnItems_0 M_contour_OnItem).loop 2 sk_contour_OnItems_2 ex_contour_OnItems_2 N2
noncomputable def mf_contour_OnItems (M_contour_OnItem : List AC → Option (List AC))  (N2 : List AC → Option (Nat × List AC)) : List AC → Option (List AC) := modelF Try.prog (C_contour_OnItems_1 M_contour_OnItem N2) 64 30 sig_contour_OnItems osig_contour_OnItems
theorem st_contour_OnItems_2_eq (M_contour_OnItem : List AC → Option (List AC))  (v0 : Int) (v1 : List (List AC)) (v2 : Int) (v3 : Int) (v4 : Int) (v5 : Int) (v6 : Int) : st_contour_OnItems_2 M_contour_OnItem  [AC.int .i64 v0, AC.view [Kd.int .i64, Kd.int .i64, Kd.int .i64, Kd.int .i64, Kd.int .i64, Kd.int .i64, Kd.int .i64, Kd.int .i64, Kd.int .i64, Kd.int .i64, Kd.int .i64, Kd.int .i64, Kd.int .i64, Kd.bool, Kd.int .i64, Kd.bool, Kd.int .i64, Kd.int .i64, Kd.int .i64, Kd.int .i64, Kd.int .i64, Kd.bool] v1, AC.int .i64 v2, AC.int .i64 v3, AC.int .i64 v4, AC.int .i64 v5, AC.int .i64 v6] =
  bif decide (v3 < v2) then
   bif decide (0 ≤ v3) && decide (v3 < (↑v1.length : Int)) then
    (M_contour_OnItem [AC.int IntKind.i64 (intOf (nth AC.dead (nth [] v1 v3.toNat) 0)), AC.int IntKind.i64 (intOf (nth AC.dead (nth [] v1 v3.toNat) 1)), AC.int IntKind.i64 (intOf (nth AC.dead (nth [] v1 v3.toNat) 2)), AC.int IntKind.i64 (intOf (nth AC.dead (nth [] v1 v3.toNat) 3)), AC.int IntKind.i64 (intOf (nth AC.dead (nth [] v1 v3.toNat) 4)), AC.int IntKind.i64 (intOf (nth AC.dead (nth [] v1 v3.toNat) 5)), AC.int IntKind.i64 (intOf (nth AC.dead (nth [] v1 v3.toNat) 6)), AC.int IntKind.i64 (intOf (nth AC.dead (nth [] v1 v3.toNat) 7)), AC.int IntKind.i64 (intOf (nth AC.dead (nth [] v1 v3.toNat) 8)), AC.int IntKind.i64 (intOf (nth AC.dead (nth [] v1 v3.toNat) 9)), AC.int IntKind.i64 (intOf (nth AC.dead (nth [] v1 v3.toNat) 10)), AC.int IntKind.i64 (intOf (nth AC.dead (nth [] v1 v3.toNat) 11)), AC.int IntKind.i64 (intOf (nth AC.dead (nth [] v1 v3.toNat) 12)), AC.bool (boolOf (nth AC.dead (nth [] v1 v3.toNat) 13)), AC.int IntKind.i64 (intOf (nth AC.dead (nth [] v1 v3.toNat) 14)), AC.bool (boolOf (nth AC.dead (nth [] v1 v3.toNat) 15)), AC.int IntKind.i64 (intOf (nth AC.dead (nth [] v1 v3.toNat) 16)), AC.int IntKind.i64 (intOf (nth AC.dead (nth [] v1 v3.toNat) 17)), AC.int IntKind.i64 (intOf (nth AC.dead (nth [] v1 v3.toNat) 18)), AC.int IntKind.i64 (intOf (nth AC.dead (nth [] v1 v3.toNat) 19)), AC.int IntKind.i64 (intOf (nth AC.dead (nth [] v1 v3.toNat) 20)), AC.bool (boolOf (nth AC.dead (nth [] v1 v3.toNat) 21)), AC.int IntKind.i64 v4, AC.int IntKind.i64 v5, AC.int IntKind.i64 v6, AC.int IntKind.i64 v0]).bind fun o2 =>
    bif boolOf (nth AC.dead o2 0) then
     some (1, [AC.bool true])
    else
     some (0, [AC.int IntKind.i64 v0, AC.view [Kd.int IntKind.i64, Kd.int IntKind.i64, Kd.int IntKind.i64, Kd.int IntKind.i64, Kd.int IntKind.i64, Kd.int IntKind.i64, Kd.int IntKind.i64, Kd.int IntKind.i64, Kd.int IntKind.i64, Kd.int IntKind.i64, Kd.int IntKind.i64, Kd.int IntKind.i64, Kd.int IntKind.i64, Kd.bool, Kd.int IntKind.i64, Kd.bool, Kd.int IntKind.i64, Kd.int IntKind.i64, Kd.int IntKind.i64, Kd.int IntKind.i64, Kd.int IntKind.i64, Kd.bool] v1, AC.int IntKind.i64 v2, AC.int IntKind.i64 (IntKind.i64.wrap (v3 + 1)), AC.int IntKind.i64 v4, AC.int IntKind.i64 v5, AC.int IntKind.i64 v6])
   else
    none
  else
   some (2, []) := by kernel_rfl
theorem mf_contour_OnItems_eq (M_contour_OnItem : List AC → Option (List AC))  (N2 : List AC → Option (Nat × List AC)) (x0 : List (List AC)) (x1 : Int) (x2 : Int) (x3 : Int) (x4 : Int) : mf_contour_OnItems M_contour_OnItem  N2 [AC.view [Kd.int .i64, Kd.int .i64, Kd.int .i64, Kd.int .i64, Kd.int .i64, Kd.int .i64, Kd.int .i64, Kd.int .i64, Kd.int .i64, Kd.int .i64, Kd.int .i64, Kd.int .i64, Kd.int .i64, Kd.bool, Kd.int .i64, Kd.bool, Kd.int .i64, Kd.int .i64, Kd.int .i64, Kd.int .i64, Kd.int .i64, Kd.bool] x0, AC.int .i64 x1, AC.int .i64 x2, AC.int .i64 x3, AC.int .i64 x4] =
  (N2 [AC.int IntKind.i64 x4, AC.view [Kd.int IntKind.i64, Kd.int IntKind.i64, Kd.int IntKind.i64, Kd.int IntKind.i64, Kd.int IntKind.i64, Kd.int IntKind.i64, Kd.int IntKind.i64, Kd.int IntKind.i64, Kd.int IntKind.i64, Kd.int IntKind.i64, Kd.int IntKind.i64, Kd.int IntKind.i64, Kd.int IntKind.i64, Kd.bool, Kd.int IntKind.i64, Kd.bool, Kd.int IntKind.i64, Kd.int IntKind.i64, Kd.int IntKind.i64, Kd.int IntKind.i64, Kd.int IntKind.i64, Kd.bool] x0, AC.int IntKind.i64 (↑x0.length : Int), AC.int IntKind.i64 0, AC.int IntKind.i64 x1, AC.int IntKind.i64 x2, AC.int IntKind.i64 x3]).bind fun o3 =>
  bif o3.fst.beq 1 then
   some [AC.bool (boolOf (nth AC.dead o3.snd 0))]
  else
   bif o3.fst.beq 2 then
    some [AC.bool false]
   else
    none := by kernel_rfl
noncomputable def l_contour_OnItems_2 := loopC (st_contour_OnItems_2 m_contour_OnItem )
noncomputable def m_contour_OnItems := mf_contour_OnItems m_contour_OnItem  l_contour_OnItems_2
theorem sp_contour_OnItems : SpecOK Try.prog (C_contour_OnItems_0 m_contour_OnItem) := specOK_of rfl ⟨r_contour_OnItem, trivial⟩
theorem r_contour_OnItems : RowOK Try.prog (30, spOf sig_contour_OnItems osig_contour_OnItems m_contour_OnItems) := row_of (C := (C_contour_OnItems_1 m_contour_OnItem l_contour_OnItems_2)) (L := 64) (sig := sig_contour_OnItems) (osig := osig_contour_OnItems) (by kernel_rfl) ((FnOK.bare rfl rfl rfl).loop sp_contour_OnItems eqOk mixOk (by kernel_rfl) (by kernel_rfl)) sp_contour_OnItems eqOk mixOk (by kernel_rfl) (by kernel_rfl)
def sig_cncref23_Motion : Sk := { tmps := [TS.v false [CS.int .i64]], boxes := [], rows := [] }
def osig_cncref23_Motion : Sk := { tmps := [TS.v false [CS.bool]], boxes := [], rows := [] }
noncomputable def C_cncref23_Motion_0  : Cfg := { spec := lookS [], eqOk := eqAll, ownOff := ownOff }
noncomputable def mf_cncref23_Motion   : List AC → Option (List AC) := modelF Try.prog C_cncref23_Motion_0 64 48 sig_cncref23_Motion osig_cncref23_Motion
theorem mf_cncref23_Motion_eq   (x0 : Int) : mf_cncref23_Motion   [AC.int .i64 x0] =
  bif decide (x0 ≥ 1) then
   some [AC.bool (decide (x0 ≤ 6))]
  else
   some [AC.bool false] := by kernel_rfl
noncomputable def m_cncref23_Motion := mf_cncref23_Motion  
theorem sp_cncref23_Motion : SpecOK Try.prog (C_cncref23_Motion_0 ) := specOK_of rfl trivial
theorem r_cncref23_Motion : RowOK Try.prog (48, spOf sig_cncref23_Motion osig_cncref23_Motion m_cncref23_Motion) := row_of (C := C_cncref23_Motion_0) (L := 64) (sig := sig_cncref23_Motion) (osig := osig_cncref23_Motion) (by kernel_rfl) (FnOK.bare rfl rfl rfl) sp_cncref23_Motion eqOk mixOk (by kernel_rfl) (by kernel_rfl)
def sig_cncref23_Cross : Sk := { tmps := [TS.v true [CS.int .i64, CS.int .i64, CS.int .i64, CS.int .i64], TS.v true [CS.int .i64, CS.int .i64, CS.int .i64, CS.int .i64]], boxes := [], rows := [] }
def osig_cncref23_Cross : Sk := { tmps := [TS.v false [CS.int .i64]], boxes := [], rows := [] }
noncomputable def C_cncref23_Cross_0  : Cfg := { spec := lookS [], eqOk := eqAll, ownOff := ownOff }
noncomputable def mf_cncref23_Cross   : List AC → Option (List AC) := modelF Try.prog C_cncref23_Cross_0 64 115 sig_cncref23_Cross osig_cncref23_Cross
theorem mf_cncref23_Cross_eq   (x0 : Int) (x1 : Int) (x2 : Int) (x3 : Int) (x4 : Int) (x5 : Int) (x6 : Int) (x7 : Int) : mf_cncref23_Cross   [AC.int .i64 x0, AC.int .i64 x1, AC.int .i64 x2, AC.int .i64 x3, AC.int .i64 x4, AC.int .i64 x5, AC.int .i64 x6, AC.int .i64 x7] =
  some [AC.int IntKind.i64 (IntKind.i64.wrap (IntKind.i64.wrap (x0 * x5) - IntKind.i64.wrap (x1 * x4)))] := by kernel_rfl
noncomputable def m_cncref23_Cross := mf_cncref23_Cross  
theorem sp_cncref23_Cross : SpecOK Try.prog (C_cncref23_Cross_0 ) := specOK_of rfl trivial
theorem r_cncref23_Cross : RowOK Try.prog (115, spOf sig_cncref23_Cross osig_cncref23_Cross m_cncref23_Cross) := row_of (C := C_cncref23_Cross_0) (L := 64) (sig := sig_cncref23_Cross) (osig := osig_cncref23_Cross) (by kernel_rfl) (FnOK.bare rfl rfl rfl) sp_cncref23_Cross eqOk mixOk (by kernel_rfl) (by kernel_rfl)
def sig_cncref23_Dot : Sk := { tmps := [TS.v true [CS.int .i64, CS.int .i64, CS.int .i64, CS.int .i64], TS.v true [CS.int .i64, CS.int .i64, CS.int .i64, CS.int .i64]], boxes := [], rows := [] }
def osig_cncref23_Dot : Sk := { tmps := [TS.v false [CS.int .i64]], boxes := [], rows := [] }
noncomputable def C_cncref23_Dot_0  : Cfg := { spec := lookS [], eqOk := eqAll, ownOff := ownOff }
noncomputable def mf_cncref23_Dot   : List AC → Option (List AC) := modelF Try.prog C_cncref23_Dot_0 64 74 sig_cncref23_Dot osig_cncref23_Dot
theorem mf_cncref23_Dot_eq   (x0 : Int) (x1 : Int) (x2 : Int) (x3 : Int) (x4 : Int) (x5 : Int) (x6 : Int) (x7 : Int) : mf_cncref23_Dot   [AC.int .i64 x0, AC.int .i64 x1, AC.int .i64 x2, AC.int .i64 x3, AC.int .i64 x4, AC.int .i64 x5, AC.int .i64 x6, AC.int .i64 x7] =
  some [AC.int IntKind.i64 (IntKind.i64.wrap (IntKind.i64.wrap (x0 * x4) + IntKind.i64.wrap (x1 * x5)))] := by kernel_rfl
noncomputable def m_cncref23_Dot := mf_cncref23_Dot  
theorem sp_cncref23_Dot : SpecOK Try.prog (C_cncref23_Dot_0 ) := specOK_of rfl trivial
theorem r_cncref23_Dot : RowOK Try.prog (74, spOf sig_cncref23_Dot osig_cncref23_Dot m_cncref23_Dot) := row_of (C := C_cncref23_Dot_0) (L := 64) (sig := sig_cncref23_Dot) (osig := osig_cncref23_Dot) (by kernel_rfl) (FnOK.bare rfl rfl rfl) sp_cncref23_Dot eqOk mixOk (by kernel_rfl) (by kernel_rfl)
def sig_cncref23_ends : Sk := { tmps := [TS.v true [CS.int .i64, CS.int .i64, CS.int .i64, CS.int .i64, CS.int .i64, CS.int .i64, CS.int .i64, CS.int .i64, CS.int .i64, CS.int .i64, CS.int .i64, CS.int .i64, CS.int .i64, CS.bool, CS.int .i64, CS.bool, CS.int .i64, CS.int .i64, CS.int .i64, CS.int .i64, CS.int .i64, CS.bool]], boxes := [], rows := [] }
def osig_cncref23_ends : Sk := { tmps := [TS.tup [(true, [CS.int .i64, CS.int .i64, CS.int .i64, CS.int .i64]), (true, [CS.int .i64, CS.int .i64, CS.int .i64, CS.int .i64])]], boxes := [], rows := [] }
noncomputable def C_cncref23_ends_0 (M_cncref23_Plane : List AC → Option (List AC)) : Cfg := { spec := lookS [(64, spOf sig_cncref23_Plane osig_cncref23_Plane M_cncref23_Plane)], eqOk := eqAll, ownOff := ownOff }
noncomputable def mf_cncref23_ends (M_cncref23_Plane : List AC → Option (List AC))  : List AC → Option (List AC) := modelF Try.prog (C_cncref23_ends_0 M_cncref23_Plane) 64 114 sig_cncref23_ends osig_cncref23_ends
theorem mf_cncref23_ends_eq (M_cncref23_Plane : List AC → Option (List AC))  (x0 : Int) (x1 : Int) (x2 : Int) (x3 : Int) (x4 : Int) (x5 : Int) (x6 : Int) (x7 : Int) (x8 : Int) (x9 : Int) (x10 : Int) (x11 : Int) (x12 : Int) (x13 : Bool) (x14 : Int) (x15 : Bool) (x16 : Int) (x17 : Int) (x18 : Int) (x19 : Int) (x20 : Int) (x21 : Bool) : mf_cncref23_ends M_cncref23_Plane  [AC.int .i64 x0, AC.int .i64 x1, AC.int .i64 x2, AC.int .i64 x3, AC.int .i64 x4, AC.int .i64 x5, AC.int .i64 x6, AC.int .i64 x7, AC.int .i64 x8, AC.int .i64 x9, AC.int .i64 x10, AC.int .i64 x11, AC.int .i64 x12, AC.bool x13, AC.int .i64 x14, AC.bool x15, AC.int .i64 x16, AC.int .i64 x17, AC.int .i64 x18, AC.int .i64 x19, AC.int .i64 x20, AC.bool x21] =
  (M_cncref23_Plane [AC.int IntKind.i64 x9, AC.int IntKind.i64 x10, AC.int IntKind.i64 x11, AC.int IntKind.i64 x8]).bind fun o3 =>
  (M_cncref23_Plane [AC.int IntKind.i64 x2, AC.int IntKind.i64 x3, AC.int IntKind.i64 x4, AC.int IntKind.i64 x8]).bind fun o4 =>
  (M_cncref23_Plane [AC.int IntKind.i64 x5, AC.int IntKind.i64 x6, AC.int IntKind.i64 x7, AC.int IntKind.i64 x8]).bind fun o5 =>
  some [AC.int IntKind.i64 (IntKind.i64.wrap (intOf (nth AC.dead o4 0) - intOf (nth AC.dead o3 0))), AC.int IntKind.i64 (IntKind.i64.wrap (intOf (nth AC.dead o4 1) - intOf (nth AC.dead o3 1))), AC.int IntKind.i64 0, AC.int IntKind.i64 (intOf (nth AC.dead o4 2)), AC.int IntKind.i64 (IntKind.i64.wrap (intOf (nth AC.dead o5 0) - intOf (nth AC.dead o3 0))), AC.int IntKind.i64 (IntKind.i64.wrap (intOf (nth AC.dead o5 1) - intOf (nth AC.dead o3 1))), AC.int IntKind.i64 0, AC.int IntKind.i64 (intOf (nth AC.dead o5 2))] := by kernel_rfl
noncomputable def m_cncref23_ends := mf_cncref23_ends m_cncref23_Plane 
theorem sp_cncref23_ends : SpecOK Try.prog (C_cncref23_ends_0 m_cncref23_Plane) := specOK_of rfl ⟨r_cncref23_Plane, trivial⟩
theorem r_cncref23_ends : RowOK Try.prog (114, spOf sig_cncref23_ends osig_cncref23_ends m_cncref23_ends) := row_of (C := (C_cncref23_ends_0 m_cncref23_Plane)) (L := 64) (sig := sig_cncref23_ends) (osig := osig_cncref23_ends) (by kernel_rfl) (FnOK.bare rfl rfl rfl) sp_cncref23_ends eqOk mixOk (by kernel_rfl) (by kernel_rfl)
def sig_cncref23_within : Sk := { tmps := [TS.v true [CS.int .i64, CS.int .i64, CS.int .i64]], boxes := [], rows := [] }
def osig_cncref23_within : Sk := { tmps := [TS.v false [CS.bool]], boxes := [], rows := [] }
noncomputable def C_cncref23_within_0 (M_cncref23_small : List AC → Option (List AC)) : Cfg := { spec := lookS [(54, spOf sig_cncref23_small osig_cncref23_small M_cncref23_small)], eqOk := eqAll, ownOff := ownOff }
noncomputable def mf_cncref23_within (M_cncref23_small : List AC → Option (List AC))  : List AC → Option (List AC) := modelF Try.prog (C_cncref23_within_0 M_cncref23_small) 64 113 sig_cncref23_within osig_cncref23_within
theorem mf_cncref23_within_eq (M_cncref23_small : List AC → Option (List AC))  (x0 : Int) (x1 : Int) (x2 : Int) : mf_cncref23_within M_cncref23_small  [AC.int .i64 x0, AC.int .i64 x1, AC.int .i64 x2] =
  (M_cncref23_small [AC.int IntKind.i64 x0, AC.int IntKind.i64 x1, AC.int IntKind.i64 x2, AC.int IntKind.i64 1048576]).bind fun o1 =>
  some [AC.bool (boolOf (nth AC.dead o1 0))] := by kernel_rfl
noncomputable def m_cncref23_within := mf_cncref23_within m_cncref23_small 
theorem sp_cncref23_within : SpecOK Try.prog (C_cncref23_within_0 m_cncref23_small) := specOK_of rfl ⟨r_cncref23_small, trivial⟩
theorem r_cncref23_within : RowOK Try.prog (113, spOf sig_cncref23_within osig_cncref23_within m_cncref23_within) := row_of (C := (C_cncref23_within_0 m_cncref23_small)) (L := 64) (sig := sig_cncref23_within) (osig := osig_cncref23_within) (by kernel_rfl) (FnOK.bare rfl rfl rfl) sp_cncref23_within eqOk mixOk (by kernel_rfl) (by kernel_rfl)
def sig_cncref23_Valid : Sk := { tmps := [TS.v true [CS.int .i64, CS.int .i64, CS.int .i64, CS.int .i64, CS.int .i64, CS.int .i64, CS.int .i64, CS.int .i64, CS.int .i64, CS.int .i64, CS.int .i64, CS.int .i64, CS.int .i64, CS.bool, CS.int .i64, CS.bool, CS.int .i64, CS.int .i64, CS.int .i64, CS.int .i64, CS.int .i64, CS.bool]], boxes := [], rows := [] }
def osig_cncref23_Valid : Sk := { tmps := [TS.v false [CS.bool]], boxes := [], rows := [] }
noncomputable def C_cncref23_Valid_0 (M_cncref23_Cross : List AC → Option (List AC)) (M_cncref01_Cmp : List AC → Option (List AC)) (M_cncref23_Dot : List AC → Option (List AC)) (M_cncref23_ends : List AC → Option (List AC)) (M_cncref23_within : List AC → Option (List AC)) (M_cncref23_Motion : List AC → Option (List AC)) : Cfg := { spec := lookS [(115, spOf sig_cncref23_Cross osig_cncref23_Cross M_cncref23_Cross), (111, spOf sig_cncref01_Cmp osig_cncref01_Cmp M_cncref01_Cmp), (74, spOf sig_cncref23_Dot osig_cncref23_Dot M_cncref23_Dot), (114, spOf sig_cncref23_ends osig_cncref23_ends M_cncref23_ends), (113, spOf sig_cncref23_within osig_cncref23_within M_cncref23_within), (48, spOf sig_cncref23_Motion osig_cncref23_Motion M_cncref23_Motion)], eqOk := eqAll, ownOff := ownOff }
noncomputable def mf_cncref23_Valid (M_cncref23_Cross : List AC → Option (List AC)) (M_cncref01_Cmp : List AC → Option (List AC)) (M_cncref23_Dot : List AC → Option (List AC)) (M_cncref23_ends : List AC → Option (List AC)) (M_cncref23_within : List AC → Option (List AC)) (M_cncref23_Motion : List AC → Option (List AC))  : List AC → Option (List AC) := modelF Try.prog (C_cncref23_Valid_0 M_cncref23_Cross M_cncref01_Cmp M_cncref23_Dot M_cncref23_ends M_cncref23_within M_cncref23_Motion) 64 62 sig_cncref23_Valid osig_cncref23_Valid
theorem mf_cncref23_Valid_eq (M_cncref23_Cross : List AC → Option (List AC)) (M_cncref01_Cmp : List AC → Option (List AC)) (M_cncref23_Dot : List AC → Option (List AC)) (M_cncref23_ends : List AC → Option (List AC)) (M_cncref23_within : List AC → Option (List AC)) (M_cncref23_Motion : List AC → Option (List AC))  (x0 : Int) (x1 : Int) (x2 : Int) (x3 : Int) (x4 : Int) (x5 : Int) (x6 : Int) (x7 : Int) (x8 : Int) (x9 : Int) (x10 : Int) (x11 : Int) (x12 : Int) (x13 : Bool) (x14 : Int) (x15 : Bool) (x16 : Int) (x17 : Int) (x18 : Int) (x19 : Int) (x20 : Int) (x21 : Bool) : mf_cncref23_Valid M_cncref23_Cross M_cncref01_Cmp M_cncref23_Dot M_cncref23_ends M_cncref23_within M_cncref23_Motion  [AC.int .i64 x0, AC.int .i64 x1, AC.int .i64 x2, AC.int .i64 x3, AC.int .i64 x4, AC.int .i64 x5, AC.int .i64 x6, AC.int .i64 x7, AC.int .i64 x8, AC.int .i64 x9, AC.int .i64 x10, AC.int .i64 x11, AC.int .i64 x12, AC.bool x13, AC.int .i64 x14, AC.bool x15, AC.int .i64 x16, AC.int .i64 x17, AC.int .i64 x18, AC.int .i64 x19, AC.int .i64 x20, AC.bool x21] =
  (M_cncref23_Motion [AC.int IntKind.i64 x0]).bind fun o57 =>
  bif !boolOf (nth AC.dead o57 0) then
   some [AC.bool false]
  else
   (M_cncref23_within [AC.int IntKind.i64 x2, AC.int IntKind.i64 x3, AC.int IntKind.i64 x4]).bind fun o58 =>
   bif !boolOf (nth AC.dead o58 0) then
    some [AC.bool false]
   else
    (M_cncref23_within [AC.int IntKind.i64 x5, AC.int IntKind.i64 x6, AC.int IntKind.i64 x7]).bind fun o59 =>
    bif !boolOf (nth AC.dead o59 0) then
     some [AC.bool false]
    else
     bif x0 != 3 then
      some [AC.bool true]
     else
      bif x8 != 17 then
       bif x8 != 18 then
        bif x8 != 19 then
         some [AC.bool false]
        else
         bif x12 != 1 then
          bif x12 != -1 then
           some [AC.bool false]
          else
           (M_cncref23_within [AC.int IntKind.i64 x9, AC.int IntKind.i64 x10, AC.int IntKind.i64 x11]).bind fun o60 =>
           bif !boolOf (nth AC.dead o60 0) then
            some [AC.bool false]
           else
            (M_cncref23_ends [AC.int IntKind.i64 x0, AC.int IntKind.i64 x1, AC.int IntKind.i64 x2, AC.int IntKind.i64 x3, AC.int IntKind.i64 x4, AC.int IntKind.i64 x5, AC.int IntKind.i64 x6, AC.int IntKind.i64 x7, AC.int IntKind.i64 x8, AC.int IntKind.i64 x9, AC.int IntKind.i64 x10, AC.int IntKind.i64 x11, AC.int IntKind.i64 x12, AC.bool x13, AC.int IntKind.i64 x14, AC.bool x15, AC.int IntKind.i64 x16, AC.int IntKind.i64 x17, AC.int IntKind.i64 x18, AC.int IntKind.i64 x19, AC.int IntKind.i64 x20, AC.bool x21]).bind fun o61 =>
            (M_cncref23_Dot [AC.int IntKind.i64 (intOf (nth AC.dead o61 0)), AC.int IntKind.i64 (intOf (nth AC.dead o61 1)), AC.int IntKind.i64 (intOf (nth AC.dead o61 2)), AC.int IntKind.i64 (intOf (nth AC.dead o61 3)), AC.int IntKind.i64 (intOf (nth AC.dead o61 0)), AC.int IntKind.i64 (intOf (nth AC.dead o61 1)), AC.int IntKind.i64 (intOf (nth AC.dead o61 2)), AC.int IntKind.i64 (intOf (nth AC.dead o61 3))]).bind fun o62 =>
            (M_cncref23_Dot [AC.int IntKind.i64 (intOf (nth AC.dead o61 4)), AC.int IntKind.i64 (intOf (nth AC.dead o61 5)), AC.int IntKind.i64 (intOf (nth AC.dead o61 6)), AC.int IntKind.i64 (intOf (nth AC.dead o61 7)), AC.int IntKind.i64 (intOf (nth AC.dead o61 4)), AC.int IntKind.i64 (intOf (nth AC.dead o61 5)), AC.int IntKind.i64 (intOf (nth AC.dead o61 6)), AC.int IntKind.i64 (intOf (nth AC.dead o61 7))]).bind fun o63 =>
            bif decide (intOf (nth AC.dead o62 0) < 64) then
             some [AC.bool false]
            else
             bif decide (intOf (nth AC.dead o63 0) < 64) then
              some [AC.bool false]
             else
              bif decide (IntKind.i64.wrap (IntKind.i64.wrap (intOf (nth AC.dead o62 0) + intOf (nth AC.dead o63 0)) - 16) > 0) then
               (M_cncref01_Cmp [AC.int IntKind.i64 (IntKind.i64.wrap (IntKind.i64.wrap (intOf (nth AC.dead o62 0) + intOf (nth AC.dead o63 0)) - 16)), AC.int IntKind.i64 (IntKind.i64.wrap (IntKind.i64.wrap (intOf (nth AC.dead o62 0) + intOf (nth AC.dead o63 0)) - 16)), AC.int IntKind.i64 (IntKind.i64.wrap (4 * intOf (nth AC.dead o62 0))), AC.int IntKind.i64 (intOf (nth AC.dead o63 0))]).bind fun o64 =>
               bif decide (intOf (nth AC.dead o64 0) > 0) then
                some [AC.bool false]
               else
                bif x13 then
                 bif intOf (nth AC.dead o61 0) == intOf (nth AC.dead o61 4) then
                  some [AC.bool (intOf (nth AC.dead o61 1) == intOf (nth AC.dead o61 5))]
                 else
                  some [AC.bool false]
                else
                 (M_cncref23_Cross [AC.int IntKind.i64 (intOf (nth AC.dead o61 0)), AC.int IntKind.i64 (intOf (nth AC.dead o61 1)), AC.int IntKind.i64 (intOf (nth AC.dead o61 2)), AC.int IntKind.i64 (intOf (nth AC.dead o61 3)), AC.int IntKind.i64 (intOf (nth AC.dead o61 4)), AC.int IntKind.i64 (intOf (nth AC.dead o61 5)), AC.int IntKind.i64 (intOf (nth AC.dead o61 6)), AC.int IntKind.i64 (intOf (nth AC.dead o61 7))]).bind fun o65 =>
                 bif intOf (nth AC.dead o65 0) != 0 then
                  some [AC.bool true]
                 else
                  (M_cncref23_Dot [AC.int IntKind.i64 (intOf (nth AC.dead o61 0)), AC.int IntKind.i64 (intOf (nth AC.dead o61 1)), AC.int IntKind.i64 (intOf (nth AC.dead o61 2)), AC.int IntKind.i64 (intOf (nth AC.dead o61 3)), AC.int IntKind.i64 (intOf (nth AC.dead o61 4)), AC.int IntKind.i64 (intOf (nth AC.dead o61 5)), AC.int IntKind.i64 (intOf (nth AC.dead o61 6)), AC.int IntKind.i64 (intOf (nth AC.dead o61 7))]).bind fun o66 =>
                  some [AC.bool (decide (intOf (nth AC.dead o66 0) < 0))]
              else
               bif x13 then
                bif intOf (nth AC.dead o61 0) == intOf (nth AC.dead o61 4) then
                 some [AC.bool (intOf (nth AC.dead o61 1) == intOf (nth AC.dead o61 5))]
                else
                 some [AC.bool false]
               else
                (M_cncref23_Cross [AC.int IntKind.i64 (intOf (nth AC.dead o61 0)), AC.int IntKind.i64 (intOf (nth AC.dead o61 1)), AC.int IntKind.i64 (intOf (nth AC.dead o61 2)), AC.int IntKind.i64 (intOf (nth AC.dead o61 3)), AC.int IntKind.i64 (intOf (nth AC.dead o61 4)), AC.int IntKind.i64 (intOf (nth AC.dead o61 5)), AC.int IntKind.i64 (intOf (nth AC.dead o61 6)), AC.int IntKind.i64 (intOf (nth AC.dead o61 7))]).bind fun o67 =>
                bif intOf (nth AC.dead o67 0) != 0 then
                 some [AC.bool true]
                else
                 (M_cncref23_Dot [AC.int IntKind.i64 (intOf (nth AC.dead o61 0)), AC.int IntKind.i64 (intOf (nth AC.dead o61 1)), AC.int IntKind.i64 (intOf (nth AC.dead o61 2)), AC.int IntKind.i64 (intOf (nth AC.dead o61 3)), AC.int IntKind.i64 (intOf (nth AC.dead o61 4)), AC.int IntKind.i64 (intOf (nth AC.dead o61 5)), AC.int IntKind.i64 (intOf (nth AC.dead o61 6)), AC.int IntKind.i64 (intOf (nth AC.dead o61 7))]).bind fun o68 =>
                 some [AC.bool (decide (intOf (nth AC.dead o68 0) < 0))]
         else
          (M_cncref23_within [AC.int IntKind.i64 x9, AC.int IntKind.i64 x10, AC.int IntKind.i64 x11]).bind fun o69 =>
          bif !boolOf (nth AC.dead o69 0) then
           some [AC.bool false]
          else
           (M_cncref23_ends [AC.int IntKind.i64 x0, AC.int IntKind.i64 x1, AC.int IntKind.i64 x2, AC.int IntKind.i64 x3, AC.int IntKind.i64 x4, AC.int IntKind.i64 x5, AC.int IntKind.i64 x6, AC.int IntKind.i64 x7, AC.int IntKind.i64 x8, AC.int IntKind.i64 x9, AC.int IntKind.i64 x10, AC.int IntKind.i64 x11, AC.int IntKind.i64 x12, AC.bool x13, AC.int IntKind.i64 x14, AC.bool x15, AC.int IntKind.i64 x16, AC.int IntKind.i64 x17, AC.int IntKind.i64 x18, AC.int IntKind.i64 x19, AC.int IntKind.i64 x20, AC.bool x21]).bind fun o70 =>
           (M_cncref23_Dot [AC.int IntKind.i64 (intOf (nth AC.dead o70 0)), AC.int IntKind.i64 (intOf (nth AC.dead o70 1)), AC.int IntKind.i64 (intOf (nth AC.dead o70 2)), AC.int IntKind.i64 (intOf (nth AC.dead o70 3)), AC.int IntKind.i64 (intOf (nth AC.dead o70 0)), AC.int IntKind.i64 (intOf (nth AC.dead o70 1)), AC.int IntKind.i64 (intOf (nth AC.dead o70 2)), AC.int IntKind.i64 (intOf (nth AC.dead o70 3))]).bind fun o71 =>
           (M_cncref23_Dot [AC.int IntKind.i64 (intOf (nth AC.dead o70 4)), AC.int IntKind.i64 (intOf (nth AC.dead o70 5)), AC.int IntKind.i64 (intOf (nth AC.dead o70 6)), AC.int IntKind.i64 (intOf (nth AC.dead o70 7)), AC.int IntKind.i64 (intOf (nth AC.dead o70 4)), AC.int IntKind.i64 (intOf (nth AC.dead o70 5)), AC.int IntKind.i64 (intOf (nth AC.dead o70 6)), AC.int IntKind.i64 (intOf (nth AC.dead o70 7))]).bind fun o72 =>
           bif decide (intOf (nth AC.dead o71 0) < 64) then
            some [AC.bool false]
           else
            bif decide (intOf (nth AC.dead o72 0) < 64) then
             some [AC.bool false]
            else
             bif decide (IntKind.i64.wrap (IntKind.i64.wrap (intOf (nth AC.dead o71 0) + intOf (nth AC.dead o72 0)) - 16) > 0) then
              (M_cncref01_Cmp [AC.int IntKind.i64 (IntKind.i64.wrap (IntKind.i64.wrap (intOf (nth AC.dead o71 0) + intOf (nth AC.dead o72 0)) - 16)), AC.int IntKind.i64 (IntKind.i64.wrap (IntKind.i64.wrap (intOf (nth AC.dead o71 0) + intOf (nth AC.dead o72 0)) - 16)), AC.int IntKind.i64 (IntKind.i64.wrap (4 * intOf (nth AC.dead o71 0))), AC.int IntKind.i64 (intOf (nth AC.dead o72 0))]).bind fun o73 =>
              bif decide (intOf (nth AC.dead o73 0) > 0) then
               some [AC.bool false]
              else
               bif x13 then
                bif intOf (nth AC.dead o70 0) == intOf (nth AC.dead o70 4) then
                 some [AC.bool (intOf (nth AC.dead o70 1) == intOf (nth AC.dead o70 5))]
                else
                 some [AC.bool false]
               else
                (M_cncref23_Cross [AC.int IntKind.i64 (intOf (nth AC.dead o70 0)), AC.int IntKind.i64 (intOf (nth AC.dead o70 1)), AC.int IntKind.i64 (intOf (nth AC.dead o70 2)), AC.int IntKind.i64 (intOf (nth AC.dead o70 3)), AC.int IntKind.i64 (intOf (nth AC.dead o70 4)), AC.int IntKind.i64 (intOf (nth AC.dead o70 5)), AC.int IntKind.i64 (intOf (nth AC.dead o70 6)), AC.int IntKind.i64 (intOf (nth AC.dead o70 7))]).bind fun o74 =>
                bif intOf (nth AC.dead o74 0) != 0 then
                 some [AC.bool true]
                else
                 (M_cncref23_Dot [AC.int IntKind.i64 (intOf (nth AC.dead o70 0)), AC.int IntKind.i64 (intOf (nth AC.dead o70 1)), AC.int IntKind.i64 (intOf (nth AC.dead o70 2)), AC.int IntKind.i64 (intOf (nth AC.dead o70 3)), AC.int IntKind.i64 (intOf (nth AC.dead o70 4)), AC.int IntKind.i64 (intOf (nth AC.dead o70 5)), AC.int IntKind.i64 (intOf (nth AC.dead o70 6)), AC.int IntKind.i64 (intOf (nth AC.dead o70 7))]).bind fun o75 =>
                 some [AC.bool (decide (intOf (nth AC.dead o75 0) < 0))]
             else
              bif x13 then
               bif intOf (nth AC.dead o70 0) == intOf (nth AC.dead o70 4) then
                some [AC.bool (intOf (nth AC.dead o70 1) == intOf (nth AC.dead o70 5))]
               else
                some [AC.bool false]
              else
               (M_cncref23_Cross [AC.int IntKind.i64 (intOf (nth AC.dead o70 0)), AC.int IntKind.i64 (intOf (nth AC.dead o70 1)), AC.int IntKind.i64 (intOf (nth AC.dead o70 2)), AC.int IntKind.i64 (intOf (nth AC.dead o70 3)), AC.int IntKind.i64 (intOf (nth AC.dead o70 4)), AC.int IntKind.i64 (intOf (nth AC.dead o70 5)), AC.int IntKind.i64 (intOf (nth AC.dead o70 6)), AC.int IntKind.i64 (intOf (nth AC.dead o70 7))]).bind fun o76 =>
               bif intOf (nth AC.dead o76 0) != 0 then
                some [AC.bool true]
               else
                (M_cncref23_Dot [AC.int IntKind.i64 (intOf (nth AC.dead o70 0)), AC.int IntKind.i64 (intOf (nth AC.dead o70 1)), AC.int IntKind.i64 (intOf (nth AC.dead o70 2)), AC.int IntKind.i64 (intOf (nth AC.dead o70 3)), AC.int IntKind.i64 (intOf (nth AC.dead o70 4)), AC.int IntKind.i64 (intOf (nth AC.dead o70 5)), AC.int IntKind.i64 (intOf (nth AC.dead o70 6)), AC.int IntKind.i64 (intOf (nth AC.dead o70 7))]).bind fun o77 =>
                some [AC.bool (decide (intOf (nth AC.dead o77 0) < 0))]
       else
        bif x12 != 1 then
         bif x12 != -1 then
          some [AC.bool false]
         else
          (M_cncref23_within [AC.int IntKind.i64 x9, AC.int IntKind.i64 x10, AC.int IntKind.i64 x11]).bind fun o78 =>
          bif !boolOf (nth AC.dead o78 0) then
           some [AC.bool false]
          else
           (M_cncref23_ends [AC.int IntKind.i64 x0, AC.int IntKind.i64 x1, AC.int IntKind.i64 x2, AC.int IntKind.i64 x3, AC.int IntKind.i64 x4, AC.int IntKind.i64 x5, AC.int IntKind.i64 x6, AC.int IntKind.i64 x7, AC.int IntKind.i64 x8, AC.int IntKind.i64 x9, AC.int IntKind.i64 x10, AC.int IntKind.i64 x11, AC.int IntKind.i64 x12, AC.bool x13, AC.int IntKind.i64 x14, AC.bool x15, AC.int IntKind.i64 x16, AC.int IntKind.i64 x17, AC.int IntKind.i64 x18, AC.int IntKind.i64 x19, AC.int IntKind.i64 x20, AC.bool x21]).bind fun o79 =>
           (M_cncref23_Dot [AC.int IntKind.i64 (intOf (nth AC.dead o79 0)), AC.int IntKind.i64 (intOf (nth AC.dead o79 1)), AC.int IntKind.i64 (intOf (nth AC.dead o79 2)), AC.int IntKind.i64 (intOf (nth AC.dead o79 3)), AC.int IntKind.i64 (intOf (nth AC.dead o79 0)), AC.int IntKind.i64 (intOf (nth AC.dead o79 1)), AC.int IntKind.i64 (intOf (nth AC.dead o79 2)), AC.int IntKind.i64 (intOf (nth AC.dead o79 3))]).bind fun o80 =>
           (M_cncref23_Dot [AC.int IntKind.i64 (intOf (nth AC.dead o79 4)), AC.int IntKind.i64 (intOf (nth AC.dead o79 5)), AC.int IntKind.i64 (intOf (nth AC.dead o79 6)), AC.int IntKind.i64 (intOf (nth AC.dead o79 7)), AC.int IntKind.i64 (intOf (nth AC.dead o79 4)), AC.int IntKind.i64 (intOf (nth AC.dead o79 5)), AC.int IntKind.i64 (intOf (nth AC.dead o79 6)), AC.int IntKind.i64 (intOf (nth AC.dead o79 7))]).bind fun o81 =>
           bif decide (intOf (nth AC.dead o80 0) < 64) then
            some [AC.bool false]
           else
            bif decide (intOf (nth AC.dead o81 0) < 64) then
             some [AC.bool false]
            else
             bif decide (IntKind.i64.wrap (IntKind.i64.wrap (intOf (nth AC.dead o80 0) + intOf (nth AC.dead o81 0)) - 16) > 0) then
              (M_cncref01_Cmp [AC.int IntKind.i64 (IntKind.i64.wrap (IntKind.i64.wrap (intOf (nth AC.dead o80 0) + intOf (nth AC.dead o81 0)) - 16)), AC.int IntKind.i64 (IntKind.i64.wrap (IntKind.i64.wrap (intOf (nth AC.dead o80 0) + intOf (nth AC.dead o81 0)) - 16)), AC.int IntKind.i64 (IntKind.i64.wrap (4 * intOf (nth AC.dead o80 0))), AC.int IntKind.i64 (intOf (nth AC.dead o81 0))]).bind fun o82 =>
              bif decide (intOf (nth AC.dead o82 0) > 0) then
               some [AC.bool false]
              else
               bif x13 then
                bif intOf (nth AC.dead o79 0) == intOf (nth AC.dead o79 4) then
                 some [AC.bool (intOf (nth AC.dead o79 1) == intOf (nth AC.dead o79 5))]
                else
                 some [AC.bool false]
               else
                (M_cncref23_Cross [AC.int IntKind.i64 (intOf (nth AC.dead o79 0)), AC.int IntKind.i64 (intOf (nth AC.dead o79 1)), AC.int IntKind.i64 (intOf (nth AC.dead o79 2)), AC.int IntKind.i64 (intOf (nth AC.dead o79 3)), AC.int IntKind.i64 (intOf (nth AC.dead o79 4)), AC.int IntKind.i64 (intOf (nth AC.dead o79 5)), AC.int IntKind.i64 (intOf (nth AC.dead o79 6)), AC.int IntKind.i64 (intOf (nth AC.dead o79 7))]).bind fun o83 =>
                bif intOf (nth AC.dead o83 0) != 0 then
                 some [AC.bool true]
                else
                 (M_cncref23_Dot [AC.int IntKind.i64 (intOf (nth AC.dead o79 0)), AC.int IntKind.i64 (intOf (nth AC.dead o79 1)), AC.int IntKind.i64 (intOf (nth AC.dead o79 2)), AC.int IntKind.i64 (intOf (nth AC.dead o79 3)), AC.int IntKind.i64 (intOf (nth AC.dead o79 4)), AC.int IntKind.i64 (intOf (nth AC.dead o79 5)), AC.int IntKind.i64 (intOf (nth AC.dead o79 6)), AC.int IntKind.i64 (intOf (nth AC.dead o79 7))]).bind fun o84 =>
                 some [AC.bool (decide (intOf (nth AC.dead o84 0) < 0))]
             else
              bif x13 then
               bif intOf (nth AC.dead o79 0) == intOf (nth AC.dead o79 4) then
                some [AC.bool (intOf (nth AC.dead o79 1) == intOf (nth AC.dead o79 5))]
               else
                some [AC.bool false]
              else
               (M_cncref23_Cross [AC.int IntKind.i64 (intOf (nth AC.dead o79 0)), AC.int IntKind.i64 (intOf (nth AC.dead o79 1)), AC.int IntKind.i64 (intOf (nth AC.dead o79 2)), AC.int IntKind.i64 (intOf (nth AC.dead o79 3)), AC.int IntKind.i64 (intOf (nth AC.dead o79 4)), AC.int IntKind.i64 (intOf (nth AC.dead o79 5)), AC.int IntKind.i64 (intOf (nth AC.dead o79 6)), AC.int IntKind.i64 (intOf (nth AC.dead o79 7))]).bind fun o85 =>
               bif intOf (nth AC.dead o85 0) != 0 then
                some [AC.bool true]
               else
                (M_cncref23_Dot [AC.int IntKind.i64 (intOf (nth AC.dead o79 0)), AC.int IntKind.i64 (intOf (nth AC.dead o79 1)), AC.int IntKind.i64 (intOf (nth AC.dead o79 2)), AC.int IntKind.i64 (intOf (nth AC.dead o79 3)), AC.int IntKind.i64 (intOf (nth AC.dead o79 4)), AC.int IntKind.i64 (intOf (nth AC.dead o79 5)), AC.int IntKind.i64 (intOf (nth AC.dead o79 6)), AC.int IntKind.i64 (intOf (nth AC.dead o79 7))]).bind fun o86 =>
                some [AC.bool (decide (intOf (nth AC.dead o86 0) < 0))]
        else
         (M_cncref23_within [AC.int IntKind.i64 x9, AC.int IntKind.i64 x10, AC.int IntKind.i64 x11]).bind fun o87 =>
         bif !boolOf (nth AC.dead o87 0) then
          some [AC.bool false]
         else
          (M_cncref23_ends [AC.int IntKind.i64 x0, AC.int IntKind.i64 x1, AC.int IntKind.i64 x2, AC.int IntKind.i64 x3, AC.int IntKind.i64 x4, AC.int IntKind.i64 x5, AC.int IntKind.i64 x6, AC.int IntKind.i64 x7, AC.int IntKind.i64 x8, AC.int IntKind.i64 x9, AC.int IntKind.i64 x10, AC.int IntKind.i64 x11, AC.int IntKind.i64 x12, AC.bool x13, AC.int IntKind.i64 x14, AC.bool x15, AC.int IntKind.i64 x16, AC.int IntKind.i64 x17, AC.int IntKind.i64 x18, AC.int IntKind.i64 x19, AC.int IntKind.i64 x20, AC.bool x21]).bind fun o88 =>
          (M_cncref23_Dot [AC.int IntKind.i64 (intOf (nth AC.dead o88 0)), AC.int IntKind.i64 (intOf (nth AC.dead o88 1)), AC.int IntKind.i64 (intOf (nth AC.dead o88 2)), AC.int IntKind.i64 (intOf (nth AC.dead o88 3)), AC.int IntKind.i64 (intOf (nth AC.dead o88 0)), AC.int IntKind.i64 (intOf (nth AC.dead o88 1)), AC.int IntKind.i64 (intOf (nth AC.dead o88 2)), AC.int IntKind.i64 (intOf (nth AC.dead o88 3))]).bind fun o89 =>
          (M_cncref23_Dot [AC.int IntKind.i64 (intOf (nth AC.dead o88 4)), AC.int IntKind.i64 (intOf (nth AC.dead o88 5)), AC.int IntKind.i64 (intOf (nth AC.dead o88 6)), AC.int IntKind.i64 (intOf (nth AC.dead o88 7)), AC.int IntKind.i64 (intOf (nth AC.dead o88 4)), AC.int IntKind.i64 (intOf (nth AC.dead o88 5)), AC.int IntKind.i64 (intOf (nth AC.dead o88 6)), AC.int IntKind.i64 (intOf (nth AC.dead o88 7))]).bind fun o90 =>
          bif decide (intOf (nth AC.dead o89 0) < 64) then
           some [AC.bool false]
          else
           bif decide (intOf (nth AC.dead o90 0) < 64) then
            some [AC.bool false]
           else
            bif decide (IntKind.i64.wrap (IntKind.i64.wrap (intOf (nth AC.dead o89 0) + intOf (nth AC.dead o90 0)) - 16) > 0) then
             (M_cncref01_Cmp [AC.int IntKind.i64 (IntKind.i64.wrap (IntKind.i64.wrap (intOf (nth AC.dead o89 0) + intOf (nth AC.dead o90 0)) - 16)), AC.int IntKind.i64 (IntKind.i64.wrap (IntKind.i64.wrap (intOf (nth AC.dead o89 0) + intOf (nth AC.dead o90 0)) - 16)), AC.int IntKind.i64 (IntKind.i64.wrap (4 * intOf (nth AC.dead o89 0))), AC.int IntKind.i64 (intOf (nth AC.dead o90 0))]).bind fun o91 =>
             bif decide (intOf (nth AC.dead o91 0) > 0) then
              some [AC.bool false]
             else
              bif x13 then
               bif intOf (nth AC.dead o88 0) == intOf (nth AC.dead o88 4) then
                some [AC.bool (intOf (nth AC.dead o88 1) == intOf (nth AC.dead o88 5))]
               else
                some [AC.bool false]
              else
               (M_cncref23_Cross [AC.int IntKind.i64 (intOf (nth AC.dead o88 0)), AC.int IntKind.i64 (intOf (nth AC.dead o88 1)), AC.int IntKind.i64 (intOf (nth AC.dead o88 2)), AC.int IntKind.i64 (intOf (nth AC.dead o88 3)), AC.int IntKind.i64 (intOf (nth AC.dead o88 4)), AC.int IntKind.i64 (intOf (nth AC.dead o88 5)), AC.int IntKind.i64 (intOf (nth AC.dead o88 6)), AC.int IntKind.i64 (intOf (nth AC.dead o88 7))]).bind fun o92 =>
               bif intOf (nth AC.dead o92 0) != 0 then
                some [AC.bool true]
               else
                (M_cncref23_Dot [AC.int IntKind.i64 (intOf (nth AC.dead o88 0)), AC.int IntKind.i64 (intOf (nth AC.dead o88 1)), AC.int IntKind.i64 (intOf (nth AC.dead o88 2)), AC.int IntKind.i64 (intOf (nth AC.dead o88 3)), AC.int IntKind.i64 (intOf (nth AC.dead o88 4)), AC.int IntKind.i64 (intOf (nth AC.dead o88 5)), AC.int IntKind.i64 (intOf (nth AC.dead o88 6)), AC.int IntKind.i64 (intOf (nth AC.dead o88 7))]).bind fun o93 =>
                some [AC.bool (decide (intOf (nth AC.dead o93 0) < 0))]
            else
             bif x13 then
              bif intOf (nth AC.dead o88 0) == intOf (nth AC.dead o88 4) then
               some [AC.bool (intOf (nth AC.dead o88 1) == intOf (nth AC.dead o88 5))]
              else
               some [AC.bool false]
             else
              (M_cncref23_Cross [AC.int IntKind.i64 (intOf (nth AC.dead o88 0)), AC.int IntKind.i64 (intOf (nth AC.dead o88 1)), AC.int IntKind.i64 (intOf (nth AC.dead o88 2)), AC.int IntKind.i64 (intOf (nth AC.dead o88 3)), AC.int IntKind.i64 (intOf (nth AC.dead o88 4)), AC.int IntKind.i64 (intOf (nth AC.dead o88 5)), AC.int IntKind.i64 (intOf (nth AC.dead o88 6)), AC.int IntKind.i64 (intOf (nth AC.dead o88 7))]).bind fun o94 =>
              bif intOf (nth AC.dead o94 0) != 0 then
               some [AC.bool true]
              else
               (M_cncref23_Dot [AC.int IntKind.i64 (intOf (nth AC.dead o88 0)), AC.int IntKind.i64 (intOf (nth AC.dead o88 1)), AC.int IntKind.i64 (intOf (nth AC.dead o88 2)), AC.int IntKind.i64 (intOf (nth AC.dead o88 3)), AC.int IntKind.i64 (intOf (nth AC.dead o88 4)), AC.int IntKind.i64 (intOf (nth AC.dead o88 5)), AC.int IntKind.i64 (intOf (nth AC.dead o88 6)), AC.int IntKind.i64 (intOf (nth AC.dead o88 7))]).bind fun o95 =>
               some [AC.bool (decide (intOf (nth AC.dead o95 0) < 0))]
      else
       bif x12 != 1 then
        bif x12 != -1 then
         some [AC.bool false]
        else
         (M_cncref23_within [AC.int IntKind.i64 x9, AC.int IntKind.i64 x10, AC.int IntKind.i64 x11]).bind fun o96 =>
         bif !boolOf (nth AC.dead o96 0) then
          some [AC.bool false]
         else
          (M_cncref23_ends [AC.int IntKind.i64 x0, AC.int IntKind.i64 x1, AC.int IntKind.i64 x2, AC.int IntKind.i64 x3, AC.int IntKind.i64 x4, AC.int IntKind.i64 x5, AC.int IntKind.i64 x6, AC.int IntKind.i64 x7, AC.int IntKind.i64 x8, AC.int IntKind.i64 x9, AC.int IntKind.i64 x10, AC.int IntKind.i64 x11, AC.int IntKind.i64 x12, AC.bool x13, AC.int IntKind.i64 x14, AC.bool x15, AC.int IntKind.i64 x16, AC.int IntKind.i64 x17, AC.int IntKind.i64 x18, AC.int IntKind.i64 x19, AC.int IntKind.i64 x20, AC.bool x21]).bind fun o97 =>
          (M_cncref23_Dot [AC.int IntKind.i64 (intOf (nth AC.dead o97 0)), AC.int IntKind.i64 (intOf (nth AC.dead o97 1)), AC.int IntKind.i64 (intOf (nth AC.dead o97 2)), AC.int IntKind.i64 (intOf (nth AC.dead o97 3)), AC.int IntKind.i64 (intOf (nth AC.dead o97 0)), AC.int IntKind.i64 (intOf (nth AC.dead o97 1)), AC.int IntKind.i64 (intOf (nth AC.dead o97 2)), AC.int IntKind.i64 (intOf (nth AC.dead o97 3))]).bind fun o98 =>
          (M_cncref23_Dot [AC.int IntKind.i64 (intOf (nth AC.dead o97 4)), AC.int IntKind.i64 (intOf (nth AC.dead o97 5)), AC.int IntKind.i64 (intOf (nth AC.dead o97 6)), AC.int IntKind.i64 (intOf (nth AC.dead o97 7)), AC.int IntKind.i64 (intOf (nth AC.dead o97 4)), AC.int IntKind.i64 (intOf (nth AC.dead o97 5)), AC.int IntKind.i64 (intOf (nth AC.dead o97 6)), AC.int IntKind.i64 (intOf (nth AC.dead o97 7))]).bind fun o99 =>
          bif decide (intOf (nth AC.dead o98 0) < 64) then
           some [AC.bool false]
          else
           bif decide (intOf (nth AC.dead o99 0) < 64) then
            some [AC.bool false]
           else
            bif decide (IntKind.i64.wrap (IntKind.i64.wrap (intOf (nth AC.dead o98 0) + intOf (nth AC.dead o99 0)) - 16) > 0) then
             (M_cncref01_Cmp [AC.int IntKind.i64 (IntKind.i64.wrap (IntKind.i64.wrap (intOf (nth AC.dead o98 0) + intOf (nth AC.dead o99 0)) - 16)), AC.int IntKind.i64 (IntKind.i64.wrap (IntKind.i64.wrap (intOf (nth AC.dead o98 0) + intOf (nth AC.dead o99 0)) - 16)), AC.int IntKind.i64 (IntKind.i64.wrap (4 * intOf (nth AC.dead o98 0))), AC.int IntKind.i64 (intOf (nth AC.dead o99 0))]).bind fun o100 =>
             bif decide (intOf (nth AC.dead o100 0) > 0) then
              some [AC.bool false]
             else
              bif x13 then
               bif intOf (nth AC.dead o97 0) == intOf (nth AC.dead o97 4) then
                some [AC.bool (intOf (nth AC.dead o97 1) == intOf (nth AC.dead o97 5))]
               else
                some [AC.bool false]
              else
               (M_cncref23_Cross [AC.int IntKind.i64 (intOf (nth AC.dead o97 0)), AC.int IntKind.i64 (intOf (nth AC.dead o97 1)), AC.int IntKind.i64 (intOf (nth AC.dead o97 2)), AC.int IntKind.i64 (intOf (nth AC.dead o97 3)), AC.int IntKind.i64 (intOf (nth AC.dead o97 4)), AC.int IntKind.i64 (intOf (nth AC.dead o97 5)), AC.int IntKind.i64 (intOf (nth AC.dead o97 6)), AC.int IntKind.i64 (intOf (nth AC.dead o97 7))]).bind fun o101 =>
               bif intOf (nth AC.dead o101 0) != 0 then
                some [AC.bool true]
               else
                (M_cncref23_Dot [AC.int IntKind.i64 (intOf (nth AC.dead o97 0)), AC.int IntKind.i64 (intOf (nth AC.dead o97 1)), AC.int IntKind.i64 (intOf (nth AC.dead o97 2)), AC.int IntKind.i64 (intOf (nth AC.dead o97 3)), AC.int IntKind.i64 (intOf (nth AC.dead o97 4)), AC.int IntKind.i64 (intOf (nth AC.dead o97 5)), AC.int IntKind.i64 (intOf (nth AC.dead o97 6)), AC.int IntKind.i64 (intOf (nth AC.dead o97 7))]).bind fun o102 =>
                some [AC.bool (decide (intOf (nth AC.dead o102 0) < 0))]
            else
             bif x13 then
              bif intOf (nth AC.dead o97 0) == intOf (nth AC.dead o97 4) then
               some [AC.bool (intOf (nth AC.dead o97 1) == intOf (nth AC.dead o97 5))]
              else
               some [AC.bool false]
             else
              (M_cncref23_Cross [AC.int IntKind.i64 (intOf (nth AC.dead o97 0)), AC.int IntKind.i64 (intOf (nth AC.dead o97 1)), AC.int IntKind.i64 (intOf (nth AC.dead o97 2)), AC.int IntKind.i64 (intOf (nth AC.dead o97 3)), AC.int IntKind.i64 (intOf (nth AC.dead o97 4)), AC.int IntKind.i64 (intOf (nth AC.dead o97 5)), AC.int IntKind.i64 (intOf (nth AC.dead o97 6)), AC.int IntKind.i64 (intOf (nth AC.dead o97 7))]).bind fun o103 =>
              bif intOf (nth AC.dead o103 0) != 0 then
               some [AC.bool true]
              else
               (M_cncref23_Dot [AC.int IntKind.i64 (intOf (nth AC.dead o97 0)), AC.int IntKind.i64 (intOf (nth AC.dead o97 1)), AC.int IntKind.i64 (intOf (nth AC.dead o97 2)), AC.int IntKind.i64 (intOf (nth AC.dead o97 3)), AC.int IntKind.i64 (intOf (nth AC.dead o97 4)), AC.int IntKind.i64 (intOf (nth AC.dead o97 5)), AC.int IntKind.i64 (intOf (nth AC.dead o97 6)), AC.int IntKind.i64 (intOf (nth AC.dead o97 7))]).bind fun o104 =>
               some [AC.bool (decide (intOf (nth AC.dead o104 0) < 0))]
       else
        (M_cncref23_within [AC.int IntKind.i64 x9, AC.int IntKind.i64 x10, AC.int IntKind.i64 x11]).bind fun o105 =>
        bif !boolOf (nth AC.dead o105 0) then
         some [AC.bool false]
        else
         (M_cncref23_ends [AC.int IntKind.i64 x0, AC.int IntKind.i64 x1, AC.int IntKind.i64 x2, AC.int IntKind.i64 x3, AC.int IntKind.i64 x4, AC.int IntKind.i64 x5, AC.int IntKind.i64 x6, AC.int IntKind.i64 x7, AC.int IntKind.i64 x8, AC.int IntKind.i64 x9, AC.int IntKind.i64 x10, AC.int IntKind.i64 x11, AC.int IntKind.i64 x12, AC.bool x13, AC.int IntKind.i64 x14, AC.bool x15, AC.int IntKind.i64 x16, AC.int IntKind.i64 x17, AC.int IntKind.i64 x18, AC.int IntKind.i64 x19, AC.int IntKind.i64 x20, AC.bool x21]).bind fun o106 =>
         (M_cncref23_Dot [AC.int IntKind.i64 (intOf (nth AC.dead o106 0)), AC.int IntKind.i64 (intOf (nth AC.dead o106 1)), AC.int IntKind.i64 (intOf (nth AC.dead o106 2)), AC.int IntKind.i64 (intOf (nth AC.dead o106 3)), AC.int IntKind.i64 (intOf (nth AC.dead o106 0)), AC.int IntKind.i64 (intOf (nth AC.dead o106 1)), AC.int IntKind.i64 (intOf (nth AC.dead o106 2)), AC.int IntKind.i64 (intOf (nth AC.dead o106 3))]).bind fun o107 =>
         (M_cncref23_Dot [AC.int IntKind.i64 (intOf (nth AC.dead o106 4)), AC.int IntKind.i64 (intOf (nth AC.dead o106 5)), AC.int IntKind.i64 (intOf (nth AC.dead o106 6)), AC.int IntKind.i64 (intOf (nth AC.dead o106 7)), AC.int IntKind.i64 (intOf (nth AC.dead o106 4)), AC.int IntKind.i64 (intOf (nth AC.dead o106 5)), AC.int IntKind.i64 (intOf (nth AC.dead o106 6)), AC.int IntKind.i64 (intOf (nth AC.dead o106 7))]).bind fun o108 =>
         bif decide (intOf (nth AC.dead o107 0) < 64) then
          some [AC.bool false]
         else
          bif decide (intOf (nth AC.dead o108 0) < 64) then
           some [AC.bool false]
          else
           bif decide (IntKind.i64.wrap (IntKind.i64.wrap (intOf (nth AC.dead o107 0) + intOf (nth AC.dead o108 0)) - 16) > 0) then
            (M_cncref01_Cmp [AC.int IntKind.i64 (IntKind.i64.wrap (IntKind.i64.wrap (intOf (nth AC.dead o107 0) + intOf (nth AC.dead o108 0)) - 16)), AC.int IntKind.i64 (IntKind.i64.wrap (IntKind.i64.wrap (intOf (nth AC.dead o107 0) + intOf (nth AC.dead o108 0)) - 16)), AC.int IntKind.i64 (IntKind.i64.wrap (4 * intOf (nth AC.dead o107 0))), AC.int IntKind.i64 (intOf (nth AC.dead o108 0))]).bind fun o109 =>
            bif decide (intOf (nth AC.dead o109 0) > 0) then
             some [AC.bool false]
            else
             bif x13 then
              bif intOf (nth AC.dead o106 0) == intOf (nth AC.dead o106 4) then
               some [AC.bool (intOf (nth AC.dead o106 1) == intOf (nth AC.dead o106 5))]
              else
               some [AC.bool false]
             else
              (M_cncref23_Cross [AC.int IntKind.i64 (intOf (nth AC.dead o106 0)), AC.int IntKind.i64 (intOf (nth AC.dead o106 1)), AC.int IntKind.i64 (intOf (nth AC.dead o106 2)), AC.int IntKind.i64 (intOf (nth AC.dead o106 3)), AC.int IntKind.i64 (intOf (nth AC.dead o106 4)), AC.int IntKind.i64 (intOf (nth AC.dead o106 5)), AC.int IntKind.i64 (intOf (nth AC.dead o106 6)), AC.int IntKind.i64 (intOf (nth AC.dead o106 7))]).bind fun o110 =>
              bif intOf (nth AC.dead o110 0) != 0 then
               some [AC.bool true]
              else
               (M_cncref23_Dot [AC.int IntKind.i64 (intOf (nth AC.dead o106 0)), AC.int IntKind.i64 (intOf (nth AC.dead o106 1)), AC.int IntKind.i64 (intOf (nth AC.dead o106 2)), AC.int IntKind.i64 (intOf (nth AC.dead o106 3)), AC.int IntKind.i64 (intOf (nth AC.dead o106 4)), AC.int IntKind.i64 (intOf (nth AC.dead o106 5)), AC.int IntKind.i64 (intOf (nth AC.dead o106 6)), AC.int IntKind.i64 (intOf (nth AC.dead o106 7))]).bind fun o111 =>
               some [AC.bool (decide (intOf (nth AC.dead o111 0) < 0))]
           else
            bif x13 then
             bif intOf (nth AC.dead o106 0) == intOf (nth AC.dead o106 4) then
              some [AC.bool (intOf (nth AC.dead o106 1) == intOf (nth AC.dead o106 5))]
             else
              some [AC.bool false]
            else
             (M_cncref23_Cross [AC.int IntKind.i64 (intOf (nth AC.dead o106 0)), AC.int IntKind.i64 (intOf (nth AC.dead o106 1)), AC.int IntKind.i64 (intOf (nth AC.dead o106 2)), AC.int IntKind.i64 (intOf (nth AC.dead o106 3)), AC.int IntKind.i64 (intOf (nth AC.dead o106 4)), AC.int IntKind.i64 (intOf (nth AC.dead o106 5)), AC.int IntKind.i64 (intOf (nth AC.dead o106 6)), AC.int IntKind.i64 (intOf (nth AC.dead o106 7))]).bind fun o112 =>
             bif intOf (nth AC.dead o112 0) != 0 then
              some [AC.bool true]
             else
              (M_cncref23_Dot [AC.int IntKind.i64 (intOf (nth AC.dead o106 0)), AC.int IntKind.i64 (intOf (nth AC.dead o106 1)), AC.int IntKind.i64 (intOf (nth AC.dead o106 2)), AC.int IntKind.i64 (intOf (nth AC.dead o106 3)), AC.int IntKind.i64 (intOf (nth AC.dead o106 4)), AC.int IntKind.i64 (intOf (nth AC.dead o106 5)), AC.int IntKind.i64 (intOf (nth AC.dead o106 6)), AC.int IntKind.i64 (intOf (nth AC.dead o106 7))]).bind fun o113 =>
              some [AC.bool (decide (intOf (nth AC.dead o113 0) < 0))] := by kernel_rfl
noncomputable def m_cncref23_Valid := mf_cncref23_Valid m_cncref23_Cross m_cncref01_Cmp m_cncref23_Dot m_cncref23_ends m_cncref23_within m_cncref23_Motion 
theorem sp_cncref23_Valid : SpecOK Try.prog (C_cncref23_Valid_0 m_cncref23_Cross m_cncref01_Cmp m_cncref23_Dot m_cncref23_ends m_cncref23_within m_cncref23_Motion) := specOK_of rfl ⟨r_cncref23_Cross, r_cncref01_Cmp, r_cncref23_Dot, r_cncref23_ends, r_cncref23_within, r_cncref23_Motion, trivial⟩
theorem r_cncref23_Valid : RowOK Try.prog (62, spOf sig_cncref23_Valid osig_cncref23_Valid m_cncref23_Valid) := row_of (C := (C_cncref23_Valid_0 m_cncref23_Cross m_cncref01_Cmp m_cncref23_Dot m_cncref23_ends m_cncref23_within m_cncref23_Motion)) (L := 64) (sig := sig_cncref23_Valid) (osig := osig_cncref23_Valid) (by kernel_rfl) (FnOK.bare rfl rfl rfl) sp_cncref23_Valid eqOk mixOk (by kernel_rfl) (by kernel_rfl)
end Go.Bm
