/- functions of the program and of the references, as models -/
import Derived.Test.YtdllaekpkcanbaaSeShelf
import Derived.Test.YtdllaekpkcanbaaSeExt
import Derived.Test.YtdllaekpkcanbaaSePre
import Derived.Test.YtdllaekpkcanbaaSeAw0
import Derived.Test.YtdllaekpkcanbaaSeAw41
set_option linter.unusedSimpArgs false
set_option linter.unusedVariables false
set_option maxRecDepth 100000
namespace Go.Bm
open Go.Proofs
def sig_cncref01_cmp : Sk := { tmps := [TS.v false [CS.sl [Kd.int .u64]], TS.v false [CS.sl [Kd.int .u64]]], boxes := [], rows := [] }
def osig_cncref01_cmp : Sk := { tmps := [TS.v false [CS.int .i64]], boxes := [], rows := [] }
noncomputable def C_cncref01_cmp_0  : Cfg := { spec := lookS [], eqOk := eqAll, ownOff := ownOff }
def sk_cncref01_cmp_6 : Sk := { tmps := [TS.v false [CS.sl [Kd.int .u64]], TS.v false [CS.sl [Kd.int .u64]], TS.dead, TS.dead, TS.dead, TS.v false [CS.int .i64]] ++ dd 35, boxes := [], rows := [] }
def ex_cncref01_cmp_6 : List (Ex × Sk) := [(Ex.ret, { tmps := [TS.dead, TS.dead, TS.dead, TS.dead, TS.v false [CS.int .i64]] ++ dd 36, boxes := [], rows := [] }), (Ex.exit 0, { tmps := [TS.dead] ++ dd 40, boxes := [], rows := [] })]
noncomputable def st_cncref01_cmp_6   : List AC → Option (Nat × List AC) := stepL Try.prog C_cncref01_cmp_0 64 6 (bodyOf Try.prog 149 6) sk_cncref01_cmp_6 ex_cncref01_cmp_6
noncomputable def C_cncref01_cmp_1   (N6 : List AC → Option (Nat × List AC)) : Cfg := C_cncref01_cmp_0.loop 6 sk_cncref01_cmp_6 ex_cncref01_cmp_6 N6
noncomputable def mf_cncref01_cmp   (N6 : List AC → Option (Nat × List AC)) : List AC → Option (List AC) := modelF Try.prog (C_cncref01_cmp_1  N6) 64 149 sig_cncref01_cmp osig_cncref01_cmp
theorem st_cncref01_cmp_6_eq   (v0 : List (List AC)) (v1 : List (List AC)) (v2 : Int) : st_cncref01_cmp_6   [AC.view [Kd.int .u64] v0, AC.view [Kd.int .u64] v1, AC.int .i64 v2] =
  bif decide (v2 ≥ 0) then
   bif decide (0 ≤ v2) && decide (v2 < (↑v0.length : Int)) then
    bif decide (0 ≤ v2) && decide (v2 < (↑v1.length : Int)) then
     bif decide (intOf (nth AC.dead (nth [] v0 v2.toNat) 0) < intOf (nth AC.dead (nth [] v1 v2.toNat) 0)) then
      some (1, [AC.int IntKind.i64 (-1)])
     else
      bif decide (0 ≤ v2) && decide (v2 < (↑v0.length : Int)) then
       bif decide (0 ≤ v2) && decide (v2 < (↑v1.length : Int)) then
        bif decide (intOf (nth AC.dead (nth [] v0 v2.toNat) 0) > intOf (nth AC.dead (nth [] v1 v2.toNat) 0)) then
         some (1, [AC.int IntKind.i64 1])
        else
         some (0, [AC.view [Kd.int IntKind.u64] v0, AC.view [Kd.int IntKind.u64] v1, AC.int IntKind.i64 (IntKind.i64.wrap (v2 - 1))])
       else
        none
      else
       none
    else
     none
   else
    none
  else
   some (2, []) := by kernel_rfl
theorem mf_cncref01_cmp_eq   (N6 : List AC → Option (Nat × List AC)) (x0 : List (List AC)) (x1 : List (List AC)) : mf_cncref01_cmp   N6 [AC.view [Kd.int .u64] x0, AC.view [Kd.int .u64] x1] =
  bif (↑x0.length : Int) != (↑x1.length : Int) then
   bif decide ((↑x0.length : Int) < (↑x1.length : Int)) then
    some [AC.int IntKind.i64 (-1)]
   else
    some [AC.int IntKind.i64 1]
  else
   (N6 [AC.view [Kd.int IntKind.u64] x0, AC.view [Kd.int IntKind.u64] x1, AC.int IntKind.i64 (IntKind.i64.wrap ((↑x0.length : Int) - 1))]).bind fun o1 =>
   bif o1.fst.beq 1 then
    some [AC.int IntKind.i64 (intOf (nth AC.dead o1.snd 0))]
   else
    bif o1.fst.beq 2 then
     some [AC.int IntKind.i64 0]
    else
     none := by kernel_rfl
noncomputable def l_cncref01_cmp_6 := loopC (st_cncref01_cmp_6  )
noncomputable def m_cncref01_cmp := mf_cncref01_cmp   l_cncref01_cmp_6
theorem sp_cncref01_cmp : SpecOK Try.prog (C_cncref01_cmp_0 ) := specOK_of rfl trivial
theorem r_cncref01_cmp : RowOK Try.prog (149, spOf sig_cncref01_cmp osig_cncref01_cmp m_cncref01_cmp) := row_of (C := (C_cncref01_cmp_1  l_cncref01_cmp_6)) (L := 64) (sig := sig_cncref01_cmp) (osig := osig_cncref01_cmp) (by kernel_rfl) ((FnOK.bare rfl rfl rfl).loop sp_cncref01_cmp eqOk mixOk (by kernel_rfl) (by kernel_rfl)) sp_cncref01_cmp eqOk mixOk (by kernel_rfl) (by kernel_rfl)
def sig_cncref01_cut : Sk := { tmps := [TS.v false [CS.sl [Kd.int .u64]]], boxes := [], rows := [] }
def osig_cncref01_cut : Sk := { tmps := [TS.v false [CS.sl [Kd.int .u64]]], boxes := [], rows := [] }
noncomputable def C_cncref01_cut_0  : Cfg := { spec := lookS [], eqOk := eqAll, ownOff := ownOff }
def sk_cncref01_cut_1 : Sk := { tmps := [TS.v false [CS.sl [Kd.int .u64]]] ++ dd 20, boxes := [], rows := [] }
def ex_cncref01_cut_1 : List (Ex × Sk) := [(Ex.exit 0, { tmps := [TS.v false [CS.sl [Kd.int .u64]]] ++ dd 20, boxes := [], rows := [] })]
noncomputable def st_cncref01_cut_1   : List AC → Option (Nat × List AC) := stepL Try.prog C_cncref01_cut_0 64 1 (bodyOf Try.prog 179 1) sk_cncref01_cut_1 ex_cncref01_cut_1
noncomputable def C_cncref01_cut_1   (N1 : List AC → Option (Nat × List AC)) : Cfg := C_cncref01_cut_0.loop 1 sk_cncref01_cut_1 ex_cncref01_cut_1 N1
noncomputable def mf_cncref01_cut   (N1 : List AC → Option (Nat × List AC)) : List AC → Option (List AC) := modelF Try.prog (C_cncref01_cut_1  N1) 64 179 sig_cncref01_cut osig_cncref01_cut
theorem st_cncref01_cut_1_eq   (v0 : List (List AC)) : st_cncref01_cut_1   [AC.view [Kd.int .u64] v0] =
  bif decide ((↑v0.length : Int) > 0) then
   bif decide (0 ≤ IntKind.i64.wrap ((↑v0.length : Int) - 1)) && decide (IntKind.i64.wrap ((↑v0.length : Int) - 1) < (↑v0.length : Int)) then
    bif intOf (nth AC.dead (nth [] v0 (IntKind.i64.wrap ((↑v0.length : Int) - 1)).toNat) 0) == 0 then
     bif decide (0 ≤ IntKind.i64.wrap ((↑v0.length : Int) - 1)) && decide (IntKind.i64.wrap ((↑v0.length : Int) - 1) ≤ (↑v0.length : Int)) then
      some (0, [AC.view [Kd.int IntKind.u64] (List.take (IntKind.i64.wrap ((↑v0.length : Int) - 1)).toNat v0)])
     else
      none
    else
     some (1, [AC.view [Kd.int IntKind.u64] v0])
   else
    none
  else
   some (1, [AC.view [Kd.int IntKind.u64] v0]) := by kernel_rfl
theorem mf_cncref01_cut_eq   (N1 : List AC → Option (Nat × List AC)) (x0 : List (List AC)) : mf_cncref01_cut   N1 [AC.view [Kd.int .u64] x0] =
  (N1 [AC.view [Kd.int IntKind.u64] x0]).bind fun o1 =>
  bif o1.fst.beq 1 then
   some [AC.view [Kd.int IntKind.u64] (rowsOf (nth AC.dead o1.snd 0))]
  else
   none := by kernel_rfl
noncomputable def l_cncref01_cut_1 := loopC (st_cncref01_cut_1  )
noncomputable def m_cncref01_cut := mf_cncref01_cut   l_cncref01_cut_1
theorem sp_cncref01_cut : SpecOK Try.prog (C_cncref01_cut_0 ) := specOK_of rfl trivial
theorem r_cncref01_cut : RowOK Try.prog (179, spOf sig_cncref01_cut osig_cncref01_cut m_cncref01_cut) := row_of (C := (C_cncref01_cut_1  l_cncref01_cut_1)) (L := 64) (sig := sig_cncref01_cut) (osig := osig_cncref01_cut) (by kernel_rfl) ((FnOK.bare rfl rfl rfl).loop sp_cncref01_cut eqOk mixOk (by kernel_rfl) (by kernel_rfl)) sp_cncref01_cut eqOk mixOk (by kernel_rfl) (by kernel_rfl)
def sig_cncref01_mul : Sk := { tmps := [TS.v false [CS.sl [Kd.int .u64]], TS.v false [CS.sl [Kd.int .u64]]], boxes := [], rows := [] }
def osig_cncref01_mul : Sk := { tmps := [TS.v false [CS.sl [Kd.int .u64]]], boxes := [], rows := [] }
noncomputable def C_cncref01_mul_0 (M_cncref01_cut : List AC → Option (List AC)) : Cfg := { spec := lookS [(179, spOf sig_cncref01_cut osig_cncref01_cut M_cncref01_cut)], eqOk := eqAll, ownOff := ownOff }
def sk_cncref01_mul_7 : Sk := { tmps := [TS.v false [CS.sl [Kd.int .u64]], TS.v false [CS.sl [Kd.int .u64]], TS.dead, TS.dead, TS.dead, TS.v false [CS.own 15 1], TS.v false [CS.int .i64], TS.v false [CS.int .u64], TS.v false [CS.int .i64]] ++ dd 63, boxes := [], rows := [(15, 132, [Kd.int .u64])] }
def ex_cncref01_mul_7 : List (Ex × Sk) := [(Ex.exit 2, { tmps := [TS.v false [CS.sl [Kd.int .u64]], TS.v false [CS.sl [Kd.int .u64]], TS.dead, TS.dead, TS.dead, TS.v false [CS.own 15 1], TS.v false [CS.int .i64], TS.v false [CS.int .u64]] ++ dd 64, boxes := [], rows := [(15, 132, [Kd.int .u64])] })]
noncomputable def st_cncref01_mul_7 (M_cncref01_cut : List AC → Option (List AC))  : List AC → Option (Nat × List AC) := stepL Try.prog (C_cncref01_mul_0 M_cncref01_cut) 64 7 (bodyOf Try.prog 165 7) sk_cncref01_mul_7 ex_cncref01_mul_7
noncomputable def C_cncref01_mul_1 (M_cncref01_cut : List AC → Option (List AC))  (N7 : List AC → Option (Nat × List AC)) : Cfg := (C_cncref01_mul_0 M_cncref01_cut).loop 7 sk_cncref01_mul_7 ex_cncref01_mul_7 N7
def sk_cncref01_mul_3 : Sk := { tmps := [TS.v false [CS.sl [Kd.int .u64]], TS.v false [CS.sl [Kd.int .u64]], TS.dead, TS.dead, TS.dead, TS.v false [CS.own 15 1], TS.v false [CS.int .i64]] ++ dd 65, boxes := [], rows := [(15, 132, [Kd.int .u64])] }
def ex_cncref01_mul_3 : List (Ex × Sk) := [(Ex.exit 0, { tmps := [TS.dead, TS.dead, TS.dead, TS.dead, TS.dead, TS.v false [CS.own 15 1]] ++ dd 66, boxes := [], rows := [(15, 132, [Kd.int .u64])] })]
noncomputable def st_cncref01_mul_3 (M_cncref01_cut : List AC → Option (List AC))  (N7 : List AC → Option (Nat × List AC)) : List AC → Option (Nat × List AC) := stepL Try.prog (C_cncref01_mul_1 M_cncref01_cut N7) 64 3 (bodyOf Try.prog 165 3) sk_cncref01_mul_3 ex_cncref01_mul_3
noncomputable def C_cncref01_mul_2 (M_cncref01_cut : List AC → Option (List AC))  (N7 : List AC → Option (Nat × List AC)) (N3 : List AC → Option (Nat × List AC)) : Cfg := (C_cncref01_mul_1 M_cncref01_cut N7).loop 3 sk_cncref01_mul_3 ex_cncref01_mul_3 N3
noncomputable def mf_cncref01_mul (M_cncref01_cut : List AC → Option (List AC))  (N7 : List AC → Option (Nat × List AC)) (N3 : List AC → Option (Nat × List AC)) : List AC → Option (List AC) := modelF Try.prog (C_cncref01_mul_2 M_cncref01_cut N7 N3) 64 165 sig_cncref01_mul osig_cncref01_mul
theorem st_cncref01_mul_7_eq (M_cncref01_cut : List AC → Option (List AC))  (v0 : List (List AC)) (v1 : List (List AC)) (v2 : List (List AC)) (v3 : Int) (v4 : Int) (v5 : Int) : st_cncref01_mul_7 M_cncref01_cut  [AC.view [Kd.int .u64] v0, AC.view [Kd.int .u64] v1, AC.view [Kd.int .u64] v2, AC.int .i64 v3, AC.int .u64 v4, AC.int .i64 v5] =
  bif decide (v5 < (↑v2.length : Int)) then
   bif decide (0 ≤ IntKind.i64.wrap (v3 + v5)) && decide (IntKind.i64.wrap (v3 + v5) < (↑v0.length : Int)) then
    bif decide (0 ≤ v3) && decide (v3 < (↑v1.length : Int)) then
     bif decide (0 ≤ v5) && decide (v5 < (↑v2.length : Int)) then
      bif decide (0 ≤ IntKind.i64.wrap (v3 + v5)) && decide (IntKind.i64.wrap (v3 + v5) < (↑v0.length : Int)) then
       some (0, [AC.view [Kd.int IntKind.u64] (v0.set (IntKind.i64.wrap (v3 + v5)).toNat [AC.int IntKind.u64 (IntKind.u64.wrap (↑(BitVec.ofInt IntKind.u64.bits (IntKind.u64.wrap (IntKind.u64.wrap (intOf (nth AC.dead (nth [] v0 (IntKind.i64.wrap (v3 + v5)).toNat) 0) + IntKind.u64.wrap (intOf (nth AC.dead (nth [] v1 v3.toNat) 0) * intOf (nth AC.dead (nth [] v2 v5.toNat) 0))) + v4)) &&& BitVec.ofInt IntKind.u64.bits 65535).toNat : Int))]), AC.view [Kd.int IntKind.u64] v1, AC.view [Kd.int IntKind.u64] v2, AC.int IntKind.i64 v3, AC.int IntKind.u64 ((IntKind.u64.wrap (IntKind.u64.wrap (intOf (nth AC.dead (nth [] v0 (IntKind.i64.wrap (v3 + v5)).toNat) 0) + IntKind.u64.wrap (intOf (nth AC.dead (nth [] v1 v3.toNat) 0) * intOf (nth AC.dead (nth [] v2 v5.toNat) 0))) + v4)).fdiv (2 ^ min (Int.toNat 16) IntKind.u64.bits)), AC.int IntKind.i64 (IntKind.i64.wrap (v5 + 1))])
      else
       none
     else
      none
    else
     none
   else
    none
  else
   some (1, [AC.view [Kd.int IntKind.u64] v0, AC.view [Kd.int IntKind.u64] v1, AC.view [Kd.int IntKind.u64] v2, AC.int IntKind.i64 v3, AC.int IntKind.u64 v4]) := by kernel_rfl
theorem st_cncref01_mul_3_eq (M_cncref01_cut : List AC → Option (List AC))  (N7 : List AC → Option (Nat × List AC)) (v0 : List (List AC)) (v1 : List (List AC)) (v2 : List (List AC)) (v3 : Int) : st_cncref01_mul_3 M_cncref01_cut  N7 [AC.view [Kd.int .u64] v0, AC.view [Kd.int .u64] v1, AC.view [Kd.int .u64] v2, AC.int .i64 v3] =
  bif decide (v3 < (↑v1.length : Int)) then
   (N7 [AC.view [Kd.int IntKind.u64] v0, AC.view [Kd.int IntKind.u64] v1, AC.view [Kd.int IntKind.u64] v2, AC.int IntKind.i64 v3, AC.int IntKind.u64 0, AC.int IntKind.i64 0]).bind fun o3 =>
   bif o3.fst.beq 1 then
    bif decide (0 ≤ IntKind.i64.wrap (intOf (nth AC.dead o3.snd 3) + (↑(rowsOf (nth AC.dead o3.snd 2)).length : Int))) && decide (IntKind.i64.wrap (intOf (nth AC.dead o3.snd 3) + (↑(rowsOf (nth AC.dead o3.snd 2)).length : Int)) < (↑(rowsOf (nth AC.dead o3.snd 0)).length : Int)) then
     bif decide (0 ≤ IntKind.i64.wrap (intOf (nth AC.dead o3.snd 3) + (↑(rowsOf (nth AC.dead o3.snd 2)).length : Int))) && decide (IntKind.i64.wrap (intOf (nth AC.dead o3.snd 3) + (↑(rowsOf (nth AC.dead o3.snd 2)).length : Int)) < (↑(rowsOf (nth AC.dead o3.snd 0)).length : Int)) then
      some (0, [AC.view [Kd.int IntKind.u64] ((rowsOf (nth AC.dead o3.snd 0)).set (IntKind.i64.wrap (intOf (nth AC.dead o3.snd 3) + (↑(rowsOf (nth AC.dead o3.snd 2)).length : Int))).toNat [AC.int IntKind.u64 (IntKind.u64.wrap (intOf (nth AC.dead (nth [] (rowsOf (nth AC.dead o3.snd 0)) (IntKind.i64.wrap (intOf (nth AC.dead o3.snd 3) + (↑(rowsOf (nth AC.dead o3.snd 2)).length : Int))).toNat) 0) + intOf (nth AC.dead o3.snd 4)))]), AC.view [Kd.int IntKind.u64] (rowsOf (nth AC.dead o3.snd 1)), AC.view [Kd.int IntKind.u64] (rowsOf (nth AC.dead o3.snd 2)), AC.int IntKind.i64 (IntKind.i64.wrap (intOf (nth AC.dead o3.snd 3) + 1))])
     else
      none
    else
     none
   else
    none
  else
   some (1, [AC.view [Kd.int IntKind.u64] v0]) := by kernel_rfl
theorem mf_cncref01_mul_eq (M_cncref01_cut : List AC → Option (List AC))  (N7 : List AC → Option (Nat × List AC)) (N3 : List AC → Option (Nat × List AC)) (x0 : List (List AC)) (x1 : List (List AC)) : mf_cncref01_mul M_cncref01_cut  N7 N3 [AC.view [Kd.int .u64] x0, AC.view [Kd.int .u64] x1] =
  bif decide (IntKind.i64.wrap ((↑x0.length : Int) + (↑x1.length : Int)) = IntKind.i64.wrap ((↑x0.length : Int) + (↑x1.length : Int))) then
   bif decide (0 ≤ IntKind.i64.wrap ((↑x0.length : Int) + (↑x1.length : Int))) && decide (IntKind.i64.wrap ((↑x0.length : Int) + (↑x1.length : Int)) * (↑8 : Int) ≤ 140737488355328) then
    (N3 [AC.view [Kd.int IntKind.u64] (List.replicate (IntKind.i64.wrap ((↑x0.length : Int) + (↑x1.length : Int))).toNat [AC.int IntKind.u64 0]), AC.view [Kd.int IntKind.u64] x0, AC.view [Kd.int IntKind.u64] x1, AC.int IntKind.i64 0]).bind fun o4 =>
    bif o4.fst.beq 1 then
     (M_cncref01_cut [AC.view [Kd.int IntKind.u64] (rowsOf (nth AC.dead o4.snd 0))]).bind fun o5 =>
     some [AC.view [Kd.int IntKind.u64] (rowsOf (nth AC.dead o5 0))]
    else
     none
   else
    none
  else
   none := by kernel_rfl
noncomputable def l_cncref01_mul_7 := loopC (st_cncref01_mul_7 m_cncref01_cut )
noncomputable def l_cncref01_mul_3 := loopC (st_cncref01_mul_3 m_cncref01_cut  l_cncref01_mul_7)
noncomputable def m_cncref01_mul := mf_cncref01_mul m_cncref01_cut  l_cncref01_mul_7 l_cncref01_mul_3
theorem sp_cncref01_mul : SpecOK Try.prog (C_cncref01_mul_0 m_cncref01_cut) := specOK_of rfl ⟨r_cncref01_cut, trivial⟩
theorem r_cncref01_mul : RowOK Try.prog (165, spOf sig_cncref01_mul osig_cncref01_mul m_cncref01_mul) := row_of (C := (C_cncref01_mul_2 m_cncref01_cut l_cncref01_mul_7 l_cncref01_mul_3)) (L := 64) (sig := sig_cncref01_mul) (osig := osig_cncref01_mul) (by kernel_rfl) (((FnOK.bare rfl rfl rfl).loop sp_cncref01_mul eqOk mixOk (by kernel_rfl) (by kernel_rfl)).loop sp_cncref01_mul eqOk mixOk (by kernel_rfl) (by kernel_rfl)) sp_cncref01_mul eqOk mixOk (by kernel_rfl) (by kernel_rfl)
def sig_cncref01_limbs : Sk := { tmps := [TS.v false [CS.int .u64]], boxes := [], rows := [] }
def osig_cncref01_limbs : Sk := { tmps := [TS.v false [CS.sl [Kd.int .u64]]], boxes := [], rows := [] }
noncomputable def C_cncref01_limbs_0  : Cfg := { spec := lookS [], eqOk := eqAll, ownOff := ownOff, prom := fun b => bif Nat.beq b 2 then [(3, 132)] else [] }
def sk_cncref01_limbs_2 : Sk := { tmps := [TS.v false [CS.int .u64], TS.dead, TS.dead, TS.v false [CS.own 3 1]] ++ dd 10, boxes := [], rows := [(3, 132, [Kd.int .u64])] }
def ex_cncref01_limbs_2 : List (Ex × Sk) := [(Ex.exit 0, { tmps := [TS.dead, TS.dead, TS.dead, TS.v false [CS.own 3 1]] ++ dd 10, boxes := [], rows := [(3, 132, [Kd.int .u64])] })]
noncomputable def st_cncref01_limbs_2   : List AC → Option (Nat × List AC) := stepL Try.prog C_cncref01_limbs_0 64 2 (bodyOf Try.prog 166 2) sk_cncref01_limbs_2 ex_cncref01_limbs_2
noncomputable def C_cncref01_limbs_1   (N2 : List AC → Option (Nat × List AC)) : Cfg := C_cncref01_limbs_0.loop 2 sk_cncref01_limbs_2 ex_cncref01_limbs_2 N2
noncomputable def mf_cncref01_limbs   (N2 : List AC → Option (Nat × List AC)) : List AC → Option (List AC) := modelF Try.prog (C_cncref01_limbs_1  N2) 64 166 sig_cncref01_limbs osig_cncref01_limbs
theorem st_cncref01_limbs_2_eq   (v0 : List (List AC)) (v1 : Int) : st_cncref01_limbs_2   [AC.view [Kd.int .u64] v0, AC.int .u64 v1] =
  bif decide (v1 > 0) then
   bif ((v0 ++ [[AC.int IntKind.u64 (IntKind.u64.wrap (↑(BitVec.ofInt IntKind.u64.bits v1 &&& BitVec.ofInt IntKind.u64.bits 65535).toNat : Int))]]).length * 8).ble 140737488355328 then
    some (0, [AC.view [Kd.int IntKind.u64] (v0 ++ [[AC.int IntKind.u64 (IntKind.u64.wrap (↑(BitVec.ofInt IntKind.u64.bits v1 &&& BitVec.ofInt IntKind.u64.bits 65535).toNat : Int))]]), AC.int IntKind.u64 (v1.fdiv (2 ^ min (Int.toNat 16) IntKind.u64.bits))])
   else
    none
  else
   some (1, [AC.view [Kd.int IntKind.u64] v0]) := by kernel_rfl
theorem mf_cncref01_limbs_eq   (N2 : List AC → Option (Nat × List AC)) (x0 : Int) : mf_cncref01_limbs   N2 [AC.int .u64 x0] =
  (N2 [AC.view [Kd.int IntKind.u64] [], AC.int IntKind.u64 x0]).bind fun o1 =>
  bif o1.fst.beq 1 then
   some [AC.view [Kd.int IntKind.u64] (rowsOf (nth AC.dead o1.snd 0))]
  else
   none := by kernel_rfl
noncomputable def l_cncref01_limbs_2 := loopC (st_cncref01_limbs_2  )
noncomputable def m_cncref01_limbs := mf_cncref01_limbs   l_cncref01_limbs_2
theorem sp_cncref01_limbs : SpecOK Try.prog (C_cncref01_limbs_0 ) := specOK_of rfl trivial
theorem r_cncref01_limbs : RowOK Try.prog (166, spOf sig_cncref01_limbs osig_cncref01_limbs m_cncref01_limbs) := row_of (C := (C_cncref01_limbs_1  l_cncref01_limbs_2)) (L := 64) (sig := sig_cncref01_limbs) (osig := osig_cncref01_limbs) (by kernel_rfl) ((FnOK.bare rfl rfl rfl).loop sp_cncref01_limbs eqOk mixOk (by kernel_rfl) (by kernel_rfl)) sp_cncref01_limbs eqOk mixOk (by kernel_rfl) (by kernel_rfl)
def sig_cncref01_mag : Sk := { tmps := [TS.v false [CS.int .i64]], boxes := [], rows := [] }
def osig_cncref01_mag : Sk := { tmps := [TS.v false [CS.int .u64]], boxes := [], rows := [] }
noncomputable def C_cncref01_mag_0  : Cfg := { spec := lookS [], eqOk := eqAll, ownOff := ownOff }
noncomputable def mf_cncref01_mag   : List AC → Option (List AC) := modelF Try.prog C_cncref01_mag_0 64 167 sig_cncref01_mag osig_cncref01_mag
theorem mf_cncref01_mag_eq   (x0 : Int) : mf_cncref01_mag   [AC.int .i64 x0] =
  bif decide (x0 < 0) then
   some [AC.int IntKind.u64 (IntKind.u64.wrap (IntKind.u64.wrap (IntKind.i64.wrap (0 - IntKind.i64.wrap (x0 + 1))) + 1))]
  else
   some [AC.int IntKind.u64 (IntKind.u64.wrap x0)] := by kernel_rfl
noncomputable def m_cncref01_mag := mf_cncref01_mag  
theorem sp_cncref01_mag : SpecOK Try.prog (C_cncref01_mag_0 ) := specOK_of rfl trivial
theorem r_cncref01_mag : RowOK Try.prog (167, spOf sig_cncref01_mag osig_cncref01_mag m_cncref01_mag) := row_of (C := C_cncref01_mag_0) (L := 64) (sig := sig_cncref01_mag) (osig := osig_cncref01_mag) (by kernel_rfl) (FnOK.bare rfl rfl rfl) sp_cncref01_mag eqOk mixOk (by kernel_rfl) (by kernel_rfl)
def sig_cncref01_product : Sk := { tmps := [TS.v false [CS.int .i64], TS.v false [CS.int .i64]], boxes := [], rows := [] }
def osig_cncref01_product : Sk := { tmps := [TS.v false [CS.sl [Kd.int .u64]]], boxes := [], rows := [] }
noncomputable def C_cncref01_product_0 (M_cncref01_mul : List AC → Option (List AC)) (M_cncref01_limbs : List AC → Option (List AC)) (M_cncref01_mag : List AC → Option (List AC)) : Cfg := { spec := lookS [(165, spOf sig_cncref01_mul osig_cncref01_mul M_cncref01_mul), (166, spOf sig_cncref01_limbs osig_cncref01_limbs M_cncref01_limbs), (167, spOf sig_cncref01_mag osig_cncref01_mag M_cncref01_mag)], eqOk := eqAll, ownOff := ownOff }
noncomputable def mf_cncref01_product (M_cncref01_mul : List AC → Option (List AC)) (M_cncref01_limbs : List AC → Option (List AC)) (M_cncref01_mag : List AC → Option (List AC))  : List AC → Option (List AC) := modelF Try.prog (C_cncref01_product_0 M_cncref01_mul M_cncref01_limbs M_cncref01_mag) 64 150 sig_cncref01_product osig_cncref01_product
theorem mf_cncref01_product_eq (M_cncref01_mul : List AC → Option (List AC)) (M_cncref01_limbs : List AC → Option (List AC)) (M_cncref01_mag : List AC → Option (List AC))  (x0 : Int) (x1 : Int) : mf_cncref01_product M_cncref01_mul M_cncref01_limbs M_cncref01_mag  [AC.int .i64 x0, AC.int .i64 x1] =
  (M_cncref01_mag [AC.int IntKind.i64 x0]).bind fun o5 =>
  (M_cncref01_limbs [AC.int IntKind.u64 (intOf (nth AC.dead o5 0))]).bind fun o6 =>
  (M_cncref01_mag [AC.int IntKind.i64 x1]).bind fun o7 =>
  (M_cncref01_limbs [AC.int IntKind.u64 (intOf (nth AC.dead o7 0))]).bind fun o8 =>
  (M_cncref01_mul [AC.view [Kd.int IntKind.u64] (rowsOf (nth AC.dead o6 0)), AC.view [Kd.int IntKind.u64] (rowsOf (nth AC.dead o8 0))]).bind fun o9 =>
  some [AC.view [Kd.int IntKind.u64] (rowsOf (nth AC.dead o9 0))] := by kernel_rfl
noncomputable def m_cncref01_product := mf_cncref01_product m_cncref01_mul m_cncref01_limbs m_cncref01_mag 
theorem sp_cncref01_product : SpecOK Try.prog (C_cncref01_product_0 m_cncref01_mul m_cncref01_limbs m_cncref01_mag) := specOK_of rfl ⟨r_cncref01_mul, r_cncref01_limbs, r_cncref01_mag, trivial⟩
theorem r_cncref01_product : RowOK Try.prog (150, spOf sig_cncref01_product osig_cncref01_product m_cncref01_product) := row_of (C := (C_cncref01_product_0 m_cncref01_mul m_cncref01_limbs m_cncref01_mag)) (L := 64) (sig := sig_cncref01_product) (osig := osig_cncref01_product) (by kernel_rfl) (FnOK.bare rfl rfl rfl) sp_cncref01_product eqOk mixOk (by kernel_rfl) (by kernel_rfl)
def sig_cncref01_sign : Sk := { tmps := [TS.v false [CS.int .i64], TS.v false [CS.int .i64]], boxes := [], rows := [] }
def osig_cncref01_sign : Sk := { tmps := [TS.v false [CS.int .i64]], boxes := [], rows := [] }
noncomputable def C_cncref01_sign_0  : Cfg := { spec := lookS [], eqOk := eqAll, ownOff := ownOff }
noncomputable def mf_cncref01_sign   : List AC → Option (List AC) := modelF Try.prog C_cncref01_sign_0 64 148 sig_cncref01_sign osig_cncref01_sign
theorem mf_cncref01_sign_eq   (x0 : Int) (x1 : Int) : mf_cncref01_sign   [AC.int .i64 x0, AC.int .i64 x1] =
  bif x0 == 0 then
   some [AC.int IntKind.i64 0]
  else
   bif x1 == 0 then
    some [AC.int IntKind.i64 0]
   else
    bif decide (x0 < 0) == decide (x1 < 0) then
     some [AC.int IntKind.i64 1]
    else
     some [AC.int IntKind.i64 (-1)] := by kernel_rfl
noncomputable def m_cncref01_sign := mf_cncref01_sign  
theorem sp_cncref01_sign : SpecOK Try.prog (C_cncref01_sign_0 ) := specOK_of rfl trivial
theorem r_cncref01_sign : RowOK Try.prog (148, spOf sig_cncref01_sign osig_cncref01_sign m_cncref01_sign) := row_of (C := C_cncref01_sign_0) (L := 64) (sig := sig_cncref01_sign) (osig := osig_cncref01_sign) (by kernel_rfl) (FnOK.bare rfl rfl rfl) sp_cncref01_sign eqOk mixOk (by kernel_rfl) (by kernel_rfl)
def sig_cncref01_Cmp : Sk := { tmps := [TS.v false [CS.int .i64], TS.v false [CS.int .i64], TS.v false [CS.int .i64], TS.v false [CS.int .i64]], boxes := [], rows := [] }
def osig_cncref01_Cmp : Sk := { tmps := [TS.v false [CS.int .i64]], boxes := [], rows := [] }
noncomputable def C_cncref01_Cmp_0 (M_cncref01_cmp : List AC → Option (List AC)) (M_cncref01_product : List AC → Option (List AC)) (M_cncref01_sign : List AC → Option (List AC)) : Cfg := { spec := lookS [(149, spOf sig_cncref01_cmp osig_cncref01_cmp M_cncref01_cmp), (150, spOf sig_cncref01_product osig_cncref01_product M_cncref01_product), (148, spOf sig_cncref01_sign osig_cncref01_sign M_cncref01_sign)], eqOk := eqAll, ownOff := ownOff }
noncomputable def mf_cncref01_Cmp (M_cncref01_cmp : List AC → Option (List AC)) (M_cncref01_product : List AC → Option (List AC)) (M_cncref01_sign : List AC → Option (List AC))  : List AC → Option (List AC) := modelF Try.prog (C_cncref01_Cmp_0 M_cncref01_cmp M_cncref01_product M_cncref01_sign) 64 111 sig_cncref01_Cmp osig_cncref01_Cmp
theorem mf_cncref01_Cmp_eq (M_cncref01_cmp : List AC → Option (List AC)) (M_cncref01_product : List AC → Option (List AC)) (M_cncref01_sign : List AC → Option (List AC))  (x0 : Int) (x1 : Int) (x2 : Int) (x3 : Int) : mf_cncref01_Cmp M_cncref01_cmp M_cncref01_product M_cncref01_sign  [AC.int .i64 x0, AC.int .i64 x1, AC.int .i64 x2, AC.int .i64 x3] =
  (M_cncref01_sign [AC.int IntKind.i64 x0, AC.int IntKind.i64 x1]).bind fun o5 =>
  (M_cncref01_sign [AC.int IntKind.i64 x2, AC.int IntKind.i64 x3]).bind fun o6 =>
  bif decide (intOf (nth AC.dead o5 0) < intOf (nth AC.dead o6 0)) then
   some [AC.int IntKind.i64 (-1)]
  else
   bif decide (intOf (nth AC.dead o5 0) > intOf (nth AC.dead o6 0)) then
    some [AC.int IntKind.i64 1]
   else
    (M_cncref01_product [AC.int IntKind.i64 x0, AC.int IntKind.i64 x1]).bind fun o7 =>
    (M_cncref01_product [AC.int IntKind.i64 x2, AC.int IntKind.i64 x3]).bind fun o8 =>
    (M_cncref01_cmp [AC.view [Kd.int IntKind.u64] (rowsOf (nth AC.dead o7 0)), AC.view [Kd.int IntKind.u64] (rowsOf (nth AC.dead o8 0))]).bind fun o9 =>
    some [AC.int IntKind.i64 (IntKind.i64.wrap (intOf (nth AC.dead o5 0) * intOf (nth AC.dead o9 0)))] := by kernel_rfl
noncomputable def m_cncref01_Cmp := mf_cncref01_Cmp m_cncref01_cmp m_cncref01_product m_cncref01_sign 
theorem sp_cncref01_Cmp : SpecOK Try.prog (C_cncref01_Cmp_0 m_cncref01_cmp m_cncref01_product m_cncref01_sign) := specOK_of rfl ⟨r_cncref01_cmp, r_cncref01_product, r_cncref01_sign, trivial⟩
theorem r_cncref01_Cmp : RowOK Try.prog (111, spOf sig_cncref01_Cmp osig_cncref01_Cmp m_cncref01_Cmp) := row_of (C := (C_cncref01_Cmp_0 m_cncref01_cmp m_cncref01_product m_cncref01_sign)) (L := 64) (sig := sig_cncref01_Cmp) (osig := osig_cncref01_Cmp) (by kernel_rfl) (FnOK.bare rfl rfl rfl) sp_cncref01_Cmp eqOk mixOk (by kernel_rfl) (by kernel_rfl)
def sig_cncref23_Square : Sk := { tmps := [TS.v true [CS.int .i64, CS.int .i64, CS.int .i64], TS.v true [CS.int .i64, CS.int .i64, CS.int .i64]], boxes := [], rows := [] }
def osig_cncref23_Square : Sk := { tmps := [TS.v false [CS.int .i64]], boxes := [], rows := [] }
noncomputable def C_cncref23_Square_0  : Cfg := { spec := lookS [], eqOk := eqAll, ownOff := ownOff, unroll := [3] }
noncomputable def mf_cncref23_Square   : List AC → Option (List AC) := modelF Try.prog C_cncref23_Square_0 64 110 sig_cncref23_Square osig_cncref23_Square
theorem mf_cncref23_Square_eq   (x0 : Int) (x1 : Int) (x2 : Int) (x3 : Int) (x4 : Int) (x5 : Int) : mf_cncref23_Square   [AC.int .i64 x0, AC.int .i64 x1, AC.int .i64 x2, AC.int .i64 x3, AC.int .i64 x4, AC.int .i64 x5] =
  some [AC.int IntKind.i64 (IntKind.i64.wrap (IntKind.i64.wrap (IntKind.i64.wrap (0 + IntKind.i64.wrap (IntKind.i64.wrap (x0 - x3) * IntKind.i64.wrap (x0 - x3))) + IntKind.i64.wrap (IntKind.i64.wrap (x1 - x4) * IntKind.i64.wrap (x1 - x4))) + IntKind.i64.wrap (IntKind.i64.wrap (x2 - x5) * IntKind.i64.wrap (x2 - x5))))] := by kernel_rfl
noncomputable def m_cncref23_Square := mf_cncref23_Square  
theorem sp_cncref23_Square : SpecOK Try.prog (C_cncref23_Square_0 ) := specOK_of rfl trivial
theorem r_cncref23_Square : RowOK Try.prog (110, spOf sig_cncref23_Square osig_cncref23_Square m_cncref23_Square) := row_of (C := C_cncref23_Square_0) (L := 64) (sig := sig_cncref23_Square) (osig := osig_cncref23_Square) (by kernel_rfl) (FnOK.bare rfl rfl rfl) sp_cncref23_Square eqOk mixOk (by kernel_rfl) (by kernel_rfl)
def sig_cncref24_Dot : Sk := { tmps := [TS.v true [CS.int .i64, CS.int .i64, CS.int .i64], TS.v true [CS.int .i64, CS.int .i64, CS.int .i64]], boxes := [], rows := [] }
def osig_cncref24_Dot : Sk := { tmps := [TS.v false [CS.int .i64]], boxes := [], rows := [] }
noncomputable def C_cncref24_Dot_0  : Cfg := { spec := lookS [], eqOk := eqAll, ownOff := ownOff }
noncomputable def mf_cncref24_Dot   : List AC → Option (List AC) := modelF Try.prog C_cncref24_Dot_0 64 109 sig_cncref24_Dot osig_cncref24_Dot
theorem mf_cncref24_Dot_eq   (x0 : Int) (x1 : Int) (x2 : Int) (x3 : Int) (x4 : Int) (x5 : Int) : mf_cncref24_Dot   [AC.int .i64 x0, AC.int .i64 x1, AC.int .i64 x2, AC.int .i64 x3, AC.int .i64 x4, AC.int .i64 x5] =
  some [AC.int IntKind.i64 (IntKind.i64.wrap (IntKind.i64.wrap (IntKind.i64.wrap (x0 * x3) + IntKind.i64.wrap (x1 * x4)) + IntKind.i64.wrap (x2 * x5)))] := by kernel_rfl
noncomputable def m_cncref24_Dot := mf_cncref24_Dot  
theorem sp_cncref24_Dot : SpecOK Try.prog (C_cncref24_Dot_0 ) := specOK_of rfl trivial
theorem r_cncref24_Dot : RowOK Try.prog (109, spOf sig_cncref24_Dot osig_cncref24_Dot m_cncref24_Dot) := row_of (C := C_cncref24_Dot_0) (L := 64) (sig := sig_cncref24_Dot) (osig := osig_cncref24_Dot) (by kernel_rfl) (FnOK.bare rfl rfl rfl) sp_cncref24_Dot eqOk mixOk (by kernel_rfl) (by kernel_rfl)
def sig_cncref24_Minus : Sk := { tmps := [TS.v true [CS.int .i64, CS.int .i64, CS.int .i64], TS.v true [CS.int .i64, CS.int .i64, CS.int .i64]], boxes := [], rows := [] }
def osig_cncref24_Minus : Sk := { tmps := [TS.v true [CS.int .i64, CS.int .i64, CS.int .i64]], boxes := [], rows := [] }
noncomputable def C_cncref24_Minus_0  : Cfg := { spec := lookS [], eqOk := eqAll, ownOff := ownOff }
noncomputable def mf_cncref24_Minus   : List AC → Option (List AC) := modelF Try.prog C_cncref24_Minus_0 64 108 sig_cncref24_Minus osig_cncref24_Minus
theorem mf_cncref24_Minus_eq   (x0 : Int) (x1 : Int) (x2 : Int) (x3 : Int) (x4 : Int) (x5 : Int) : mf_cncref24_Minus   [AC.int .i64 x0, AC.int .i64 x1, AC.int .i64 x2, AC.int .i64 x3, AC.int .i64 x4, AC.int .i64 x5] =
  some [AC.int IntKind.i64 (IntKind.i64.wrap (x0 - x3)), AC.int IntKind.i64 (IntKind.i64.wrap (x1 - x4)), AC.int IntKind.i64 (IntKind.i64.wrap (x2 - x5))] := by kernel_rfl
noncomputable def m_cncref24_Minus := mf_cncref24_Minus  
theorem sp_cncref24_Minus : SpecOK Try.prog (C_cncref24_Minus_0 ) := specOK_of rfl trivial
theorem r_cncref24_Minus : RowOK Try.prog (108, spOf sig_cncref24_Minus osig_cncref24_Minus m_cncref24_Minus) := row_of (C := C_cncref24_Minus_0) (L := 64) (sig := sig_cncref24_Minus) (osig := osig_cncref24_Minus) (by kernel_rfl) (FnOK.bare rfl rfl rfl) sp_cncref24_Minus eqOk mixOk (by kernel_rfl) (by kernel_rfl)
def sig_cncref24_OnSegment : Sk := { tmps := [TS.v true [CS.int .i64, CS.int .i64, CS.int .i64], TS.v true [CS.int .i64, CS.int .i64, CS.int .i64], TS.v true [CS.int .i64, CS.int .i64, CS.int .i64], TS.v false [CS.int .i64]], boxes := [], rows := [] }
def osig_cncref24_OnSegment : Sk := { tmps := [TS.v false [CS.bool]], boxes := [], rows := [] }
noncomputable def C_cncref24_OnSegment_0 (M_cncref01_Cmp : List AC → Option (List AC)) (M_cncref23_Square : List AC → Option (List AC)) (M_cncref24_Dot : List AC → Option (List AC)) (M_cncref24_Minus : List AC → Option (List AC)) : Cfg := { spec := lookS [(111, spOf sig_cncref01_Cmp osig_cncref01_Cmp M_cncref01_Cmp), (110, spOf sig_cncref23_Square osig_cncref23_Square M_cncref23_Square), (109, spOf sig_cncref24_Dot osig_cncref24_Dot M_cncref24_Dot), (108, spOf sig_cncref24_Minus osig_cncref24_Minus M_cncref24_Minus)], eqOk := eqAll, ownOff := ownOff }
noncomputable def mf_cncref24_OnSegment (M_cncref01_Cmp : List AC → Option (List AC)) (M_cncref23_Square : List AC → Option (List AC)) (M_cncref24_Dot : List AC → Option (List AC)) (M_cncref24_Minus : List AC → Option (List AC))  : List AC → Option (List AC) := modelF Try.prog (C_cncref24_OnSegment_0 M_cncref01_Cmp M_cncref23_Square M_cncref24_Dot M_cncref24_Minus) 64 58 sig_cncref24_OnSegment osig_cncref24_OnSegment
theorem mf_cncref24_OnSegment_eq (M_cncref01_Cmp : List AC → Option (List AC)) (M_cncref23_Square : List AC → Option (List AC)) (M_cncref24_Dot : List AC → Option (List AC)) (M_cncref24_Minus : List AC → Option (List AC))  (x0 : Int) (x1 : Int) (x2 : Int) (x3 : Int) (x4 : Int) (x5 : Int) (x6 : Int) (x7 : Int) (x8 : Int) (x9 : Int) : mf_cncref24_OnSegment M_cncref01_Cmp M_cncref23_Square M_cncref24_Dot M_cncref24_Minus  [AC.int .i64 x0, AC.int .i64 x1, AC.int .i64 x2, AC.int .i64 x3, AC.int .i64 x4, AC.int .i64 x5, AC.int .i64 x6, AC.int .i64 x7, AC.int .i64 x8, AC.int .i64 x9] =
  (M_cncref24_Minus [AC.int IntKind.i64 x3, AC.int IntKind.i64 x4, AC.int IntKind.i64 x5, AC.int IntKind.i64 x0, AC.int IntKind.i64 x1, AC.int IntKind.i64 x2]).bind fun o8 =>
  (M_cncref24_Minus [AC.int IntKind.i64 x6, AC.int IntKind.i64 x7, AC.int IntKind.i64 x8, AC.int IntKind.i64 x0, AC.int IntKind.i64 x1, AC.int IntKind.i64 x2]).bind fun o9 =>
  (M_cncref24_Dot [AC.int IntKind.i64 (intOf (nth AC.dead o8 0)), AC.int IntKind.i64 (intOf (nth AC.dead o8 1)), AC.int IntKind.i64 (intOf (nth AC.dead o8 2)), AC.int IntKind.i64 (intOf (nth AC.dead o8 0)), AC.int IntKind.i64 (intOf (nth AC.dead o8 1)), AC.int IntKind.i64 (intOf (nth AC.dead o8 2))]).bind fun o10 =>
  (M_cncref24_Dot [AC.int IntKind.i64 (intOf (nth AC.dead o8 0)), AC.int IntKind.i64 (intOf (nth AC.dead o8 1)), AC.int IntKind.i64 (intOf (nth AC.dead o8 2)), AC.int IntKind.i64 (intOf (nth AC.dead o9 0)), AC.int IntKind.i64 (intOf (nth AC.dead o9 1)), AC.int IntKind.i64 (intOf (nth AC.dead o9 2))]).bind fun o11 =>
  bif decide (intOf (nth AC.dead o11 0) ≤ 0) then
   (M_cncref24_Dot [AC.int IntKind.i64 (intOf (nth AC.dead o9 0)), AC.int IntKind.i64 (intOf (nth AC.dead o9 1)), AC.int IntKind.i64 (intOf (nth AC.dead o9 2)), AC.int IntKind.i64 (intOf (nth AC.dead o9 0)), AC.int IntKind.i64 (intOf (nth AC.dead o9 1)), AC.int IntKind.i64 (intOf (nth AC.dead o9 2))]).bind fun o12 =>
   some [AC.bool (decide (intOf (nth AC.dead o12 0) ≤ IntKind.i64.wrap (x9 * x9)))]
  else
   bif decide (intOf (nth AC.dead o11 0) ≥ intOf (nth AC.dead o10 0)) then
    (M_cncref23_Square [AC.int IntKind.i64 x3, AC.int IntKind.i64 x4, AC.int IntKind.i64 x5, AC.int IntKind.i64 x6, AC.int IntKind.i64 x7, AC.int IntKind.i64 x8]).bind fun o13 =>
    some [AC.bool (decide (intOf (nth AC.dead o13 0) ≤ IntKind.i64.wrap (x9 * x9)))]
   else
    (M_cncref24_Dot [AC.int IntKind.i64 (intOf (nth AC.dead o9 0)), AC.int IntKind.i64 (intOf (nth AC.dead o9 1)), AC.int IntKind.i64 (intOf (nth AC.dead o9 2)), AC.int IntKind.i64 (intOf (nth AC.dead o9 0)), AC.int IntKind.i64 (intOf (nth AC.dead o9 1)), AC.int IntKind.i64 (intOf (nth AC.dead o9 2))]).bind fun o14 =>
    (M_cncref01_Cmp [AC.int IntKind.i64 (IntKind.i64.wrap (intOf (nth AC.dead o14 0) - IntKind.i64.wrap (x9 * x9))), AC.int IntKind.i64 (intOf (nth AC.dead o10 0)), AC.int IntKind.i64 (intOf (nth AC.dead o11 0)), AC.int IntKind.i64 (intOf (nth AC.dead o11 0))]).bind fun o15 =>
    some [AC.bool (decide (intOf (nth AC.dead o15 0) ≤ 0))] := by kernel_rfl
noncomputable def m_cncref24_OnSegment := mf_cncref24_OnSegment m_cncref01_Cmp m_cncref23_Square m_cncref24_Dot m_cncref24_Minus 
theorem sp_cncref24_OnSegment : SpecOK Try.prog (C_cncref24_OnSegment_0 m_cncref01_Cmp m_cncref23_Square m_cncref24_Dot m_cncref24_Minus) := specOK_of rfl ⟨r_cncref01_Cmp, r_cncref23_Square, r_cncref24_Dot, r_cncref24_Minus, trivial⟩
theorem r_cncref24_OnSegment : RowOK Try.prog (58, spOf sig_cncref24_OnSegment osig_cncref24_OnSegment m_cncref24_OnSegment) := row_of (C := (C_cncref24_OnSegment_0 m_cncref01_Cmp m_cncref23_Square m_cncref24_Dot m_cncref24_Minus)) (L := 64) (sig := sig_cncref24_OnSegment) (osig := osig_cncref24_OnSegment) (by kernel_rfl) (FnOK.bare rfl rfl rfl) sp_cncref24_OnSegment eqOk mixOk (by kernel_rfl) (by kernel_rfl)
def sig_cncref41_OnLine : Sk := { tmps := [TS.v true [CS.int .i64, CS.int .i64, CS.int .i64], TS.v true [CS.int .i64, CS.int .i64, CS.int .i64], TS.v true [CS.int .i64, CS.int .i64, CS.int .i64], TS.v false [CS.int .i64]], boxes := [], rows := [] }
def osig_cncref41_OnLine : Sk := { tmps := [TS.v false [CS.bool]], boxes := [], rows := [] }
noncomputable def C_cncref41_OnLine_0 (M_cncref24_OnSegment : List AC → Option (List AC)) : Cfg := { spec := lookS [(58, spOf sig_cncref24_OnSegment osig_cncref24_OnSegment M_cncref24_OnSegment)], eqOk := eqAll, ownOff := ownOff }
noncomputable def mf_cncref41_OnLine (M_cncref24_OnSegment : List AC → Option (List AC))  : List AC → Option (List AC) := modelF Try.prog (C_cncref41_OnLine_0 M_cncref24_OnSegment) 64 21 sig_cncref41_OnLine osig_cncref41_OnLine
theorem mf_cncref41_OnLine_eq (M_cncref24_OnSegment : List AC → Option (List AC))  (x0 : Int) (x1 : Int) (x2 : Int) (x3 : Int) (x4 : Int) (x5 : Int) (x6 : Int) (x7 : Int) (x8 : Int) (x9 : Int) : mf_cncref41_OnLine M_cncref24_OnSegment  [AC.int .i64 x0, AC.int .i64 x1, AC.int .i64 x2, AC.int .i64 x3, AC.int .i64 x4, AC.int .i64 x5, AC.int .i64 x6, AC.int .i64 x7, AC.int .i64 x8, AC.int .i64 x9] =
  (M_cncref24_OnSegment [AC.int IntKind.i64 x0, AC.int IntKind.i64 x1, AC.int IntKind.i64 x2, AC.int IntKind.i64 x3, AC.int IntKind.i64 x4, AC.int IntKind.i64 x5, AC.int IntKind.i64 x6, AC.int IntKind.i64 x7, AC.int IntKind.i64 x8, AC.int IntKind.i64 x9]).bind fun o1 =>
  some [AC.bool (boolOf (nth AC.dead o1 0))] := by kernel_rfl
noncomputable def m_cncref41_OnLine := mf_cncref41_OnLine m_cncref24_OnSegment 
theorem sp_cncref41_OnLine : SpecOK Try.prog (C_cncref41_OnLine_0 m_cncref24_OnSegment) := specOK_of rfl ⟨r_cncref24_OnSegment, trivial⟩
theorem r_cncref41_OnLine : RowOK Try.prog (21, spOf sig_cncref41_OnLine osig_cncref41_OnLine m_cncref41_OnLine) := row_of (C := (C_cncref41_OnLine_0 m_cncref24_OnSegment)) (L := 64) (sig := sig_cncref41_OnLine) (osig := osig_cncref41_OnLine) (by kernel_rfl) (FnOK.bare rfl rfl rfl) sp_cncref41_OnLine eqOk mixOk (by kernel_rfl) (by kernel_rfl)
def sig_wide_compare : Sk := { tmps := [TS.v true [CS.int .u64, CS.int .u64], TS.v true [CS.int .u64, CS.int .u64]], boxes := [], rows := [] }
def osig_wide_compare : Sk := { tmps := [TS.v false [CS.int .i64]], boxes := [], rows := [] }
noncomputable def C_wide_compare_0  : Cfg := { spec := lookS [], eqOk := eqAll, ownOff := ownOff }
noncomputable def mf_wide_compare   : List AC → Option (List AC) := modelF Try.prog C_wide_compare_0 64 105 sig_wide_compare osig_wide_compare
theorem mf_wide_compare_eq   (x0 : Int) (x1 : Int) (x2 : Int) (x3 : Int) : mf_wide_compare   [AC.int .u64 x0, AC.int .u64 x1, AC.int .u64 x2, AC.int .u64 x3] =
  bif decide (x0 < x2) then
   some [AC.int IntKind.i64 (-1)]
  else
   bif x0 == x2 then
    bif decide (x1 < x3) then
     some [AC.int IntKind.i64 (-1)]
    else
     bif x0 == x2 && (x1 == x3 && true) then
      some [AC.int IntKind.i64 0]
     else
      some [AC.int IntKind.i64 1]
   else
    bif x0 == x2 && (x1 == x3 && true) then
     some [AC.int IntKind.i64 0]
    else
     some [AC.int IntKind.i64 1] := by kernel_rfl
noncomputable def m_wide_compare := mf_wide_compare  
theorem sp_wide_compare : SpecOK Try.prog (C_wide_compare_0 ) := specOK_of rfl trivial
theorem r_wide_compare : RowOK Try.prog (105, spOf sig_wide_compare osig_wide_compare m_wide_compare) := row_of (C := C_wide_compare_0) (L := 64) (sig := sig_wide_compare) (osig := osig_wide_compare) (by kernel_rfl) (FnOK.bare rfl rfl rfl) sp_wide_compare eqOk mixOk (by kernel_rfl) (by kernel_rfl)
def sig_wide_product : Sk := { tmps := [TS.v false [CS.int .u64], TS.v false [CS.int .u64]], boxes := [], rows := [] }
def osig_wide_product : Sk := { tmps := [TS.v true [CS.int .u64, CS.int .u64]], boxes := [], rows := [] }
noncomputable def C_wide_product_0 (M_bits_Mul64 : List AC → Option (List AC)) : Cfg := { spec := lookS [(147, spOf sig_bits_Mul64 osig_bits_Mul64 M_bits_Mul64)], eqOk := eqAll, ownOff := ownOff }
noncomputable def mf_wide_product (M_bits_Mul64 : List AC → Option (List AC))  : List AC → Option (List AC) := modelF Try.prog (C_wide_product_0 M_bits_Mul64) 64 106 sig_wide_product osig_wide_product
theorem mf_wide_product_eq (M_bits_Mul64 : List AC → Option (List AC))  (x0 : Int) (x1 : Int) : mf_wide_product M_bits_Mul64  [AC.int .u64 x0, AC.int .u64 x1] =
  (M_bits_Mul64 [AC.int IntKind.u64 x0, AC.int IntKind.u64 x1]).bind fun o1 =>
  some [AC.int IntKind.u64 (intOf (nth AC.dead o1 0)), AC.int IntKind.u64 (intOf (nth AC.dead o1 1))] := by kernel_rfl
noncomputable def m_wide_product := mf_wide_product m_bits_Mul64 
theorem sp_wide_product : SpecOK Try.prog (C_wide_product_0 m_bits_Mul64) := specOK_of rfl ⟨r_bits_Mul64, trivial⟩
theorem r_wide_product : RowOK Try.prog (106, spOf sig_wide_product osig_wide_product m_wide_product) := row_of (C := (C_wide_product_0 m_bits_Mul64)) (L := 64) (sig := sig_wide_product) (osig := osig_wide_product) (by kernel_rfl) (FnOK.bare rfl rfl rfl) sp_wide_product eqOk mixOk (by kernel_rfl) (by kernel_rfl)
def sig_wide_size : Sk := { tmps := [TS.v false [CS.int .i64]], boxes := [], rows := [] }
def osig_wide_size : Sk := { tmps := [TS.v false [CS.int .u64]], boxes := [], rows := [] }
noncomputable def C_wide_size_0  : Cfg := { spec := lookS [], eqOk := eqAll, ownOff := ownOff }
noncomputable def mf_wide_size   : List AC → Option (List AC) := modelF Try.prog C_wide_size_0 64 107 sig_wide_size osig_wide_size
theorem mf_wide_size_eq   (x0 : Int) : mf_wide_size   [AC.int .i64 x0] =
  bif decide (x0 < 0) then
   some [AC.int IntKind.u64 (IntKind.u64.wrap (IntKind.u64.wrap (IntKind.i64.wrap (0 - IntKind.i64.wrap (x0 + 1))) + 1))]
  else
   some [AC.int IntKind.u64 (IntKind.u64.wrap x0)] := by kernel_rfl
noncomputable def m_wide_size := mf_wide_size  
theorem sp_wide_size : SpecOK Try.prog (C_wide_size_0 ) := specOK_of rfl trivial
theorem r_wide_size : RowOK Try.prog (107, spOf sig_wide_size osig_wide_size m_wide_size) := row_of (C := C_wide_size_0) (L := 64) (sig := sig_wide_size) (osig := osig_wide_size) (by kernel_rfl) (FnOK.bare rfl rfl rfl) sp_wide_size eqOk mixOk (by kernel_rfl) (by kernel_rfl)
def sig_wide_sign : Sk := { tmps := [TS.v false [CS.int .i64], TS.v false [CS.int .i64]], boxes := [], rows := [] }
def osig_wide_sign : Sk := { tmps := [TS.v false [CS.int .i64]], boxes := [], rows := [] }
noncomputable def C_wide_sign_0  : Cfg := { spec := lookS [], eqOk := eqAll, ownOff := ownOff }
noncomputable def mf_wide_sign   : List AC → Option (List AC) := modelF Try.prog C_wide_sign_0 64 104 sig_wide_sign osig_wide_sign
theorem mf_wide_sign_eq   (x0 : Int) (x1 : Int) : mf_wide_sign   [AC.int .i64 x0, AC.int .i64 x1] =
  bif x0 == 0 then
   some [AC.int IntKind.i64 0]
  else
   bif x1 == 0 then
    some [AC.int IntKind.i64 0]
   else
    bif decide (x0 < 0) == decide (x1 < 0) then
     some [AC.int IntKind.i64 1]
    else
     some [AC.int IntKind.i64 (-1)] := by kernel_rfl
noncomputable def m_wide_sign := mf_wide_sign  
theorem sp_wide_sign : SpecOK Try.prog (C_wide_sign_0 ) := specOK_of rfl trivial
theorem r_wide_sign : RowOK Try.prog (104, spOf sig_wide_sign osig_wide_sign m_wide_sign) := row_of (C := C_wide_sign_0) (L := 64) (sig := sig_wide_sign) (osig := osig_wide_sign) (by kernel_rfl) (FnOK.bare rfl rfl rfl) sp_wide_sign eqOk mixOk (by kernel_rfl) (by kernel_rfl)
def sig_wide_Cmp : Sk := { tmps := [TS.v false [CS.int .i64], TS.v false [CS.int .i64], TS.v false [CS.int .i64], TS.v false [CS.int .i64]], boxes := [], rows := [] }
def osig_wide_Cmp : Sk := { tmps := [TS.v false [CS.int .i64]], boxes := [], rows := [] }
noncomputable def C_wide_Cmp_0 (M_wide_compare : List AC → Option (List AC)) (M_wide_product : List AC → Option (List AC)) (M_wide_size : List AC → Option (List AC)) (M_wide_sign : List AC → Option (List AC)) : Cfg := { spec := lookS [(105, spOf sig_wide_compare osig_wide_compare M_wide_compare), (106, spOf sig_wide_product osig_wide_product M_wide_product), (107, spOf sig_wide_size osig_wide_size M_wide_size), (104, spOf sig_wide_sign osig_wide_sign M_wide_sign)], eqOk := eqAll, ownOff := ownOff }
noncomputable def mf_wide_Cmp (M_wide_compare : List AC → Option (List AC)) (M_wide_product : List AC → Option (List AC)) (M_wide_size : List AC → Option (List AC)) (M_wide_sign : List AC → Option (List AC))  : List AC → Option (List AC) := modelF Try.prog (C_wide_Cmp_0 M_wide_compare M_wide_product M_wide_size M_wide_sign) 64 57 sig_wide_Cmp osig_wide_Cmp
theorem mf_wide_Cmp_eq (M_wide_compare : List AC → Option (List AC)) (M_wide_product : List AC → Option (List AC)) (M_wide_size : List AC → Option (List AC)) (M_wide_sign : List AC → Option (List AC))  (x0 : Int) (x1 : Int) (x2 : Int) (x3 : Int) : mf_wide_Cmp M_wide_compare M_wide_product M_wide_size M_wide_sign  [AC.int .i64 x0, AC.int .i64 x1, AC.int .i64 x2, AC.int .i64 x3] =
  (M_wide_sign [AC.int IntKind.i64 x0, AC.int IntKind.i64 x1]).bind fun o9 =>
  (M_wide_sign [AC.int IntKind.i64 x2, AC.int IntKind.i64 x3]).bind fun o10 =>
  bif intOf (nth AC.dead o9 0) != intOf (nth AC.dead o10 0) then
   bif decide (intOf (nth AC.dead o9 0) < intOf (nth AC.dead o10 0)) then
    some [AC.int IntKind.i64 (-1)]
   else
    some [AC.int IntKind.i64 1]
  else
   (M_wide_size [AC.int IntKind.i64 x0]).bind fun o11 =>
   (M_wide_size [AC.int IntKind.i64 x1]).bind fun o12 =>
   (M_wide_product [AC.int IntKind.u64 (intOf (nth AC.dead o11 0)), AC.int IntKind.u64 (intOf (nth AC.dead o12 0))]).bind fun o13 =>
   (M_wide_size [AC.int IntKind.i64 x2]).bind fun o14 =>
   (M_wide_size [AC.int IntKind.i64 x3]).bind fun o15 =>
   (M_wide_product [AC.int IntKind.u64 (intOf (nth AC.dead o14 0)), AC.int IntKind.u64 (intOf (nth AC.dead o15 0))]).bind fun o16 =>
   (M_wide_compare [AC.int IntKind.u64 (intOf (nth AC.dead o13 0)), AC.int IntKind.u64 (intOf (nth AC.dead o13 1)), AC.int IntKind.u64 (intOf (nth AC.dead o16 0)), AC.int IntKind.u64 (intOf (nth AC.dead o16 1))]).bind fun o17 =>
   some [AC.int IntKind.i64 (IntKind.i64.wrap (intOf (nth AC.dead o9 0) * intOf (nth AC.dead o17 0)))] := by kernel_rfl
noncomputable def m_wide_Cmp := mf_wide_Cmp m_wide_compare m_wide_product m_wide_size m_wide_sign 
theorem sp_wide_Cmp : SpecOK Try.prog (C_wide_Cmp_0 m_wide_compare m_wide_product m_wide_size m_wide_sign) := specOK_of rfl ⟨r_wide_compare, r_wide_product, r_wide_size, r_wide_sign, trivial⟩
theorem r_wide_Cmp : RowOK Try.prog (57, spOf sig_wide_Cmp osig_wide_Cmp m_wide_Cmp) := row_of (C := (C_wide_Cmp_0 m_wide_compare m_wide_product m_wide_size m_wide_sign)) (L := 64) (sig := sig_wide_Cmp) (osig := osig_wide_Cmp) (by kernel_rfl) (FnOK.bare rfl rfl rfl) sp_wide_Cmp eqOk mixOk (by kernel_rfl) (by kernel_rfl)
def sig_contour_product : Sk := { tmps := [TS.v true [CS.int .i64, CS.int .i64, CS.int .i64], TS.v true [CS.int .i64, CS.int .i64, CS.int .i64]], boxes := [], rows := [] }
def osig_contour_product : Sk := { tmps := [TS.v false [CS.int .i64]], boxes := [], rows := [] }
noncomputable def C_contour_product_0  : Cfg := { spec := lookS [], eqOk := eqAll, ownOff := ownOff }
noncomputable def mf_contour_product   : List AC → Option (List AC) := modelF Try.prog C_contour_product_0 64 56 sig_contour_product osig_contour_product
theorem mf_contour_product_eq   (x0 : Int) (x1 : Int) (x2 : Int) (x3 : Int) (x4 : Int) (x5 : Int) : mf_contour_product   [AC.int .i64 x0, AC.int .i64 x1, AC.int .i64 x2, AC.int .i64 x3, AC.int .i64 x4, AC.int .i64 x5] =
  some [AC.int IntKind.i64 (IntKind.i64.wrap (IntKind.i64.wrap (IntKind.i64.wrap (x0 * x3) + IntKind.i64.wrap (x1 * x4)) + IntKind.i64.wrap (x2 * x5)))] := by kernel_rfl
noncomputable def m_contour_product := mf_contour_product  
theorem sp_contour_product : SpecOK Try.prog (C_contour_product_0 ) := specOK_of rfl trivial
theorem r_contour_product : RowOK Try.prog (56, spOf sig_contour_product osig_contour_product m_contour_product) := row_of (C := C_contour_product_0) (L := 64) (sig := sig_contour_product) (osig := osig_contour_product) (by kernel_rfl) (FnOK.bare rfl rfl rfl) sp_contour_product eqOk mixOk (by kernel_rfl) (by kernel_rfl)
def sig_contour_difference : Sk := { tmps := [TS.v true [CS.int .i64, CS.int .i64, CS.int .i64], TS.v true [CS.int .i64, CS.int .i64, CS.int .i64]], boxes := [], rows := [] }
def osig_contour_difference : Sk := { tmps := [TS.v true [CS.int .i64, CS.int .i64, CS.int .i64]], boxes := [], rows := [] }
noncomputable def C_contour_difference_0  : Cfg := { spec := lookS [], eqOk := eqAll, ownOff := ownOff, unroll := [2] }
noncomputable def mf_contour_difference   : List AC → Option (List AC) := modelF Try.prog C_contour_difference_0 64 55 sig_contour_difference osig_contour_difference
theorem mf_contour_difference_eq   (x0 : Int) (x1 : Int) (x2 : Int) (x3 : Int) (x4 : Int) (x5 : Int) : mf_contour_difference   [AC.int .i64 x0, AC.int .i64 x1, AC.int .i64 x2, AC.int .i64 x3, AC.int .i64 x4, AC.int .i64 x5] =
  some [AC.int IntKind.i64 (IntKind.i64.wrap (x0 - x3)), AC.int IntKind.i64 (IntKind.i64.wrap (x1 - x4)), AC.int IntKind.i64 (IntKind.i64.wrap (x2 - x5))] := by kernel_rfl
noncomputable def m_contour_difference := mf_contour_difference  
theorem sp_contour_difference : SpecOK Try.prog (C_contour_difference_0 ) := specOK_of rfl trivial
theorem r_contour_difference : RowOK Try.prog (55, spOf sig_contour_difference osig_contour_difference m_contour_difference) := row_of (C := C_contour_difference_0) (L := 64) (sig := sig_contour_difference) (osig := osig_contour_difference) (by kernel_rfl) (FnOK.bare rfl rfl rfl) sp_contour_difference eqOk mixOk (by kernel_rfl) (by kernel_rfl)
def sig_contour_OnLine : Sk := { tmps := [TS.v true [CS.int .i64, CS.int .i64, CS.int .i64], TS.v true [CS.int .i64, CS.int .i64, CS.int .i64], TS.v true [CS.int .i64, CS.int .i64, CS.int .i64], TS.v false [CS.int .i64]], boxes := [], rows := [] }
def osig_contour_OnLine : Sk := { tmps := [TS.v false [CS.bool]], boxes := [], rows := [] }
noncomputable def C_contour_OnLine_0 (M_wide_Cmp : List AC → Option (List AC)) (M_contour_product : List AC → Option (List AC)) (M_contour_difference : List AC → Option (List AC)) : Cfg := { spec := lookS [(57, spOf sig_wide_Cmp osig_wide_Cmp M_wide_Cmp), (56, spOf sig_contour_product osig_contour_product M_contour_product), (55, spOf sig_contour_difference osig_contour_difference M_contour_difference)], eqOk := eqAll, ownOff := ownOff }
noncomputable def mf_contour_OnLine (M_wide_Cmp : List AC → Option (List AC)) (M_contour_product : List AC → Option (List AC)) (M_contour_difference : List AC → Option (List AC))  : List AC → Option (List AC) := modelF Try.prog (C_contour_OnLine_0 M_wide_Cmp M_contour_product M_contour_difference) 64 20 sig_contour_OnLine osig_contour_OnLine
theorem mf_contour_OnLine_eq (M_wide_Cmp : List AC → Option (List AC)) (M_contour_product : List AC → Option (List AC)) (M_contour_difference : List AC → Option (List AC))  (x0 : Int) (x1 : Int) (x2 : Int) (x3 : Int) (x4 : Int) (x5 : Int) (x6 : Int) (x7 : Int) (x8 : Int) (x9 : Int) : mf_contour_OnLine M_wide_Cmp M_contour_product M_contour_difference  [AC.int .i64 x0, AC.int .i64 x1, AC.int .i64 x2, AC.int .i64 x3, AC.int .i64 x4, AC.int .i64 x5, AC.int .i64 x6, AC.int .i64 x7, AC.int .i64 x8, AC.int .i64 x9] =
  (M_contour_difference [AC.int IntKind.i64 x3, AC.int IntKind.i64 x4, AC.int IntKind.i64 x5, AC.int IntKind.i64 x0, AC.int IntKind.i64 x1, AC.int IntKind.i64 x2]).bind fun o9 =>
  (M_contour_difference [AC.int IntKind.i64 x6, AC.int IntKind.i64 x7, AC.int IntKind.i64 x8, AC.int IntKind.i64 x0, AC.int IntKind.i64 x1, AC.int IntKind.i64 x2]).bind fun o10 =>
  (M_contour_difference [AC.int IntKind.i64 x6, AC.int IntKind.i64 x7, AC.int IntKind.i64 x8, AC.int IntKind.i64 x3, AC.int IntKind.i64 x4, AC.int IntKind.i64 x5]).bind fun o11 =>
  (M_contour_product [AC.int IntKind.i64 (intOf (nth AC.dead o9 0)), AC.int IntKind.i64 (intOf (nth AC.dead o9 1)), AC.int IntKind.i64 (intOf (nth AC.dead o9 2)), AC.int IntKind.i64 (intOf (nth AC.dead o10 0)), AC.int IntKind.i64 (intOf (nth AC.dead o10 1)), AC.int IntKind.i64 (intOf (nth AC.dead o10 2))]).bind fun o12 =>
  (M_contour_product [AC.int IntKind.i64 (intOf (nth AC.dead o9 0)), AC.int IntKind.i64 (intOf (nth AC.dead o9 1)), AC.int IntKind.i64 (intOf (nth AC.dead o9 2)), AC.int IntKind.i64 (intOf (nth AC.dead o9 0)), AC.int IntKind.i64 (intOf (nth AC.dead o9 1)), AC.int IntKind.i64 (intOf (nth AC.dead o9 2))]).bind fun o13 =>
  bif decide (intOf (nth AC.dead o12 0) ≤ 0) then
   (M_contour_product [AC.int IntKind.i64 (intOf (nth AC.dead o10 0)), AC.int IntKind.i64 (intOf (nth AC.dead o10 1)), AC.int IntKind.i64 (intOf (nth AC.dead o10 2)), AC.int IntKind.i64 (intOf (nth AC.dead o10 0)), AC.int IntKind.i64 (intOf (nth AC.dead o10 1)), AC.int IntKind.i64 (intOf (nth AC.dead o10 2))]).bind fun o14 =>
   some [AC.bool (decide (intOf (nth AC.dead o14 0) ≤ IntKind.i64.wrap (x9 * x9)))]
  else
   bif decide (intOf (nth AC.dead o12 0) ≥ intOf (nth AC.dead o13 0)) then
    (M_contour_product [AC.int IntKind.i64 (intOf (nth AC.dead o11 0)), AC.int IntKind.i64 (intOf (nth AC.dead o11 1)), AC.int IntKind.i64 (intOf (nth AC.dead o11 2)), AC.int IntKind.i64 (intOf (nth AC.dead o11 0)), AC.int IntKind.i64 (intOf (nth AC.dead o11 1)), AC.int IntKind.i64 (intOf (nth AC.dead o11 2))]).bind fun o15 =>
    some [AC.bool (decide (intOf (nth AC.dead o15 0) ≤ IntKind.i64.wrap (x9 * x9)))]
   else
    (M_contour_product [AC.int IntKind.i64 (intOf (nth AC.dead o10 0)), AC.int IntKind.i64 (intOf (nth AC.dead o10 1)), AC.int IntKind.i64 (intOf (nth AC.dead o10 2)), AC.int IntKind.i64 (intOf (nth AC.dead o10 0)), AC.int IntKind.i64 (intOf (nth AC.dead o10 1)), AC.int IntKind.i64 (intOf (nth AC.dead o10 2))]).bind fun o16 =>
    (M_wide_Cmp [AC.int IntKind.i64 (IntKind.i64.wrap (intOf (nth AC.dead o16 0) - IntKind.i64.wrap (x9 * x9))), AC.int IntKind.i64 (intOf (nth AC.dead o13 0)), AC.int IntKind.i64 (intOf (nth AC.dead o12 0)), AC.int IntKind.i64 (intOf (nth AC.dead o12 0))]).bind fun o17 =>
    some [AC.bool (decide (intOf (nth AC.dead o17 0) ≤ 0))] := by kernel_rfl
noncomputable def m_contour_OnLine := mf_contour_OnLine m_wide_Cmp m_contour_product m_contour_difference 
theorem sp_contour_OnLine : SpecOK Try.prog (C_contour_OnLine_0 m_wide_Cmp m_contour_product m_contour_difference) := specOK_of rfl ⟨r_wide_Cmp, r_contour_product, r_contour_difference, trivial⟩
theorem r_contour_OnLine : RowOK Try.prog (20, spOf sig_contour_OnLine osig_contour_OnLine m_contour_OnLine) := row_of (C := (C_contour_OnLine_0 m_wide_Cmp m_contour_product m_contour_difference)) (L := 64) (sig := sig_contour_OnLine) (osig := osig_contour_OnLine) (by kernel_rfl) (FnOK.bare rfl rfl rfl) sp_contour_OnLine eqOk mixOk (by kernel_rfl) (by kernel_rfl)
def sig_cncmill_Mod : Sk := { tmps := [TS.v false [CS.int .i64], TS.v false [CS.int .i64]], boxes := [], rows := [] }
def osig_cncmill_Mod : Sk := { tmps := [TS.v false [CS.int .i64]], boxes := [], rows := [] }
noncomputable def C_cncmill_Mod_0  : Cfg := { spec := lookS [], eqOk := eqAll, ownOff := ownOff }
noncomputable def mf_cncmill_Mod   : List AC → Option (List AC) := modelF Try.prog C_cncmill_Mod_0 64 23 sig_cncmill_Mod osig_cncmill_Mod
theorem mf_cncmill_Mod_eq   (x0 : Int) (x1 : Int) : mf_cncmill_Mod   [AC.int .i64 x0, AC.int .i64 x1] =
  bif decide (x1 = 0) then
   none
  else
   bif decide (x1 = 0) then
    none
   else
    some [AC.int IntKind.i64 ((IntKind.i64.wrap (x0.tmod x1 + x1)).tmod x1)] := by kernel_rfl
noncomputable def m_cncmill_Mod := mf_cncmill_Mod  
theorem sp_cncmill_Mod : SpecOK Try.prog (C_cncmill_Mod_0 ) := specOK_of rfl trivial
theorem r_cncmill_Mod : RowOK Try.prog (23, spOf sig_cncmill_Mod osig_cncmill_Mod m_cncmill_Mod) := row_of (C := C_cncmill_Mod_0) (L := 64) (sig := sig_cncmill_Mod) (osig := osig_cncmill_Mod) (by kernel_rfl) (FnOK.bare rfl rfl rfl) sp_cncmill_Mod eqOk mixOk (by kernel_rfl) (by kernel_rfl)
def sig_cnclaw41_beside : Sk := { tmps := [TS.v true [CS.int .i64, CS.int .i64, CS.int .i64], TS.v true [CS.int .i64, CS.int .i64, CS.int .i64]], boxes := [], rows := [] }
def osig_cnclaw41_beside : Sk := { tmps := [TS.v true [CS.int .i64, CS.int .i64, CS.int .i64]], boxes := [], rows := [] }
noncomputable def C_cnclaw41_beside_0 (M_cncmill_Mod : List AC → Option (List AC)) : Cfg := { spec := lookS [(23, spOf sig_cncmill_Mod osig_cncmill_Mod M_cncmill_Mod)], eqOk := eqAll, ownOff := ownOff, unroll := [2] }
noncomputable def mf_cnclaw41_beside (M_cncmill_Mod : List AC → Option (List AC))  : List AC → Option (List AC) := modelF Try.prog (C_cnclaw41_beside_0 M_cncmill_Mod) 64 19 sig_cnclaw41_beside osig_cnclaw41_beside
theorem mf_cnclaw41_beside_eq (M_cncmill_Mod : List AC → Option (List AC))  (x0 : Int) (x1 : Int) (x2 : Int) (x3 : Int) (x4 : Int) (x5 : Int) : mf_cnclaw41_beside M_cncmill_Mod  [AC.int .i64 x0, AC.int .i64 x1, AC.int .i64 x2, AC.int .i64 x3, AC.int .i64 x4, AC.int .i64 x5] =
  (M_cncmill_Mod [AC.int IntKind.i64 x3, AC.int IntKind.i64 41]).bind fun o3 =>
  (M_cncmill_Mod [AC.int IntKind.i64 x4, AC.int IntKind.i64 41]).bind fun o4 =>
  (M_cncmill_Mod [AC.int IntKind.i64 x5, AC.int IntKind.i64 41]).bind fun o5 =>
  some [AC.int IntKind.i64 (IntKind.i64.wrap (x0 + IntKind.i64.wrap (intOf (nth AC.dead o3 0) - 20))), AC.int IntKind.i64 (IntKind.i64.wrap (x1 + IntKind.i64.wrap (intOf (nth AC.dead o4 0) - 20))), AC.int IntKind.i64 (IntKind.i64.wrap (x2 + IntKind.i64.wrap (intOf (nth AC.dead o5 0) - 20)))] := by kernel_rfl
noncomputable def m_cnclaw41_beside := mf_cnclaw41_beside m_cncmill_Mod 
theorem sp_cnclaw41_beside : SpecOK Try.prog (C_cnclaw41_beside_0 m_cncmill_Mod) := specOK_of rfl ⟨r_cncmill_Mod, trivial⟩
theorem r_cnclaw41_beside : RowOK Try.prog (19, spOf sig_cnclaw41_beside osig_cnclaw41_beside m_cnclaw41_beside) := row_of (C := (C_cnclaw41_beside_0 m_cncmill_Mod)) (L := 64) (sig := sig_cnclaw41_beside) (osig := osig_cnclaw41_beside) (by kernel_rfl) (FnOK.bare rfl rfl rfl) sp_cnclaw41_beside eqOk mixOk (by kernel_rfl) (by kernel_rfl)
def sig_cnclaw41_distance : Sk := { tmps := [TS.v false [CS.int .i64]], boxes := [], rows := [] }
def osig_cnclaw41_distance : Sk := { tmps := [TS.v false [CS.bool]], boxes := [], rows := [] }
noncomputable def C_cnclaw41_distance_0  : Cfg := { spec := lookS [], eqOk := eqAll, ownOff := ownOff }
noncomputable def mf_cnclaw41_distance   : List AC → Option (List AC) := modelF Try.prog C_cnclaw41_distance_0 64 18 sig_cnclaw41_distance osig_cnclaw41_distance
theorem mf_cnclaw41_distance_eq   (x0 : Int) : mf_cnclaw41_distance   [AC.int .i64 x0] =
  bif decide (x0 ≥ 0) then
   some [AC.bool (decide (x0 ≤ 32000))]
  else
   some [AC.bool false] := by kernel_rfl
noncomputable def m_cnclaw41_distance := mf_cnclaw41_distance  
theorem sp_cnclaw41_distance : SpecOK Try.prog (C_cnclaw41_distance_0 ) := specOK_of rfl trivial
theorem r_cnclaw41_distance : RowOK Try.prog (18, spOf sig_cnclaw41_distance osig_cnclaw41_distance m_cnclaw41_distance) := row_of (C := C_cnclaw41_distance_0) (L := 64) (sig := sig_cnclaw41_distance) (osig := osig_cnclaw41_distance) (by kernel_rfl) (FnOK.bare rfl rfl rfl) sp_cnclaw41_distance eqOk mixOk (by kernel_rfl) (by kernel_rfl)
def sig_cncref23_small : Sk := { tmps := [TS.v true [CS.int .i64, CS.int .i64, CS.int .i64], TS.v false [CS.int .i64]], boxes := [], rows := [] }
def osig_cncref23_small : Sk := { tmps := [TS.v false [CS.bool]], boxes := [], rows := [] }
noncomputable def C_cncref23_small_0  : Cfg := { spec := lookS [], eqOk := eqAll, ownOff := ownOff, unroll := [2] }
noncomputable def mf_cncref23_small   : List AC → Option (List AC) := modelF Try.prog C_cncref23_small_0 64 54 sig_cncref23_small osig_cncref23_small
theorem mf_cncref23_small_eq   (x0 : Int) (x1 : Int) (x2 : Int) (x3 : Int) : mf_cncref23_small   [AC.int .i64 x0, AC.int .i64 x1, AC.int .i64 x2, AC.int .i64 x3] =
  bif decide (x0 < IntKind.i64.wrap (0 - x3)) then
   some [AC.bool false]
  else
   bif decide (x0 > x3) then
    some [AC.bool false]
   else
    bif decide (x1 < IntKind.i64.wrap (0 - x3)) then
     some [AC.bool false]
    else
     bif decide (x1 > x3) then
      some [AC.bool false]
     else
      bif decide (x2 < IntKind.i64.wrap (0 - x3)) then
       some [AC.bool false]
      else
       bif decide (x2 > x3) then
        some [AC.bool false]
       else
        some [AC.bool true] := by kernel_rfl
noncomputable def m_cncref23_small := mf_cncref23_small  
theorem sp_cncref23_small : SpecOK Try.prog (C_cncref23_small_0 ) := specOK_of rfl trivial
theorem r_cncref23_small : RowOK Try.prog (54, spOf sig_cncref23_small osig_cncref23_small m_cncref23_small) := row_of (C := C_cncref23_small_0) (L := 64) (sig := sig_cncref23_small) (osig := osig_cncref23_small) (by kernel_rfl) (FnOK.bare rfl rfl rfl) sp_cncref23_small eqOk mixOk (by kernel_rfl) (by kernel_rfl)
def sig_cncref23_Small : Sk := { tmps := [TS.v true [CS.int .i64, CS.int .i64, CS.int .i64]], boxes := [], rows := [] }
def osig_cncref23_Small : Sk := { tmps := [TS.v false [CS.bool]], boxes := [], rows := [] }
noncomputable def C_cncref23_Small_0 (M_cncref23_small : List AC → Option (List AC)) : Cfg := { spec := lookS [(54, spOf sig_cncref23_small osig_cncref23_small M_cncref23_small)], eqOk := eqAll, ownOff := ownOff }
noncomputable def mf_cncref23_Small (M_cncref23_small : List AC → Option (List AC))  : List AC → Option (List AC) := modelF Try.prog (C_cncref23_Small_0 M_cncref23_small) 64 17 sig_cncref23_Small osig_cncref23_Small
theorem mf_cncref23_Small_eq (M_cncref23_small : List AC → Option (List AC))  (x0 : Int) (x1 : Int) (x2 : Int) : mf_cncref23_Small M_cncref23_small  [AC.int .i64 x0, AC.int .i64 x1, AC.int .i64 x2] =
  (M_cncref23_small [AC.int IntKind.i64 x0, AC.int IntKind.i64 x1, AC.int IntKind.i64 x2, AC.int IntKind.i64 33554432]).bind fun o1 =>
  some [AC.bool (boolOf (nth AC.dead o1 0))] := by kernel_rfl
noncomputable def m_cncref23_Small := mf_cncref23_Small m_cncref23_small 
theorem sp_cncref23_Small : SpecOK Try.prog (C_cncref23_Small_0 m_cncref23_small) := specOK_of rfl ⟨r_cncref23_small, trivial⟩
theorem r_cncref23_Small : RowOK Try.prog (17, spOf sig_cncref23_Small osig_cncref23_Small m_cncref23_Small) := row_of (C := (C_cncref23_Small_0 m_cncref23_small)) (L := 64) (sig := sig_cncref23_Small) (osig := osig_cncref23_Small) (by kernel_rfl) (FnOK.bare rfl rfl rfl) sp_cncref23_Small eqOk mixOk (by kernel_rfl) (by kernel_rfl)
def sig_cnclaw41_ContourLine : Sk := { tmps := [TS.v true [CS.int .i64, CS.int .i64, CS.int .i64], TS.v true [CS.int .i64, CS.int .i64, CS.int .i64], TS.v true [CS.int .i64, CS.int .i64, CS.int .i64], TS.v false [CS.int .i64]], boxes := [], rows := [] }
def osig_cnclaw41_ContourLine : Sk := { tmps := [TS.v false [CS.bool]], boxes := [], rows := [] }
noncomputable def C_cnclaw41_ContourLine_0 (M_cncref41_OnLine : List AC → Option (List AC)) (M_contour_OnLine : List AC → Option (List AC)) (M_cnclaw41_beside : List AC → Option (List AC)) (M_cnclaw41_distance : List AC → Option (List AC)) (M_cncref23_Small : List AC → Option (List AC)) (M_cnclaw41_awake : List AC → Option (List AC)) : Cfg := { spec := lookS [(21, spOf sig_cncref41_OnLine osig_cncref41_OnLine M_cncref41_OnLine), (20, spOf sig_contour_OnLine osig_contour_OnLine M_contour_OnLine), (19, spOf sig_cnclaw41_beside osig_cnclaw41_beside M_cnclaw41_beside), (18, spOf sig_cnclaw41_distance osig_cnclaw41_distance M_cnclaw41_distance), (17, spOf sig_cncref23_Small osig_cncref23_Small M_cncref23_Small), (16, spOf sig_cnclaw41_awake osig_cnclaw41_awake M_cnclaw41_awake)], eqOk := eqAll, ownOff := ownOff }
noncomputable def mf_cnclaw41_ContourLine (M_cncref41_OnLine : List AC → Option (List AC)) (M_contour_OnLine : List AC → Option (List AC)) (M_cnclaw41_beside : List AC → Option (List AC)) (M_cnclaw41_distance : List AC → Option (List AC)) (M_cncref23_Small : List AC → Option (List AC)) (M_cnclaw41_awake : List AC → Option (List AC))  : List AC → Option (List AC) := modelF Try.prog (C_cnclaw41_ContourLine_0 M_cncref41_OnLine M_contour_OnLine M_cnclaw41_beside M_cnclaw41_distance M_cncref23_Small M_cnclaw41_awake) 64 3 sig_cnclaw41_ContourLine osig_cnclaw41_ContourLine
theorem mf_cnclaw41_ContourLine_eq (M_cncref41_OnLine : List AC → Option (List AC)) (M_contour_OnLine : List AC → Option (List AC)) (M_cnclaw41_beside : List AC → Option (List AC)) (M_cnclaw41_distance : List AC → Option (List AC)) (M_cncref23_Small : List AC → Option (List AC)) (M_cnclaw41_awake : List AC → Option (List AC))  (x0 : Int) (x1 : Int) (x2 : Int) (x3 : Int) (x4 : Int) (x5 : Int) (x6 : Int) (x7 : Int) (x8 : Int) (x9 : Int) : mf_cnclaw41_ContourLine M_cncref41_OnLine M_contour_OnLine M_cnclaw41_beside M_cnclaw41_distance M_cncref23_Small M_cnclaw41_awake  [AC.int .i64 x0, AC.int .i64 x1, AC.int .i64 x2, AC.int .i64 x3, AC.int .i64 x4, AC.int .i64 x5, AC.int .i64 x6, AC.int .i64 x7, AC.int .i64 x8, AC.int .i64 x9] =
  (M_cnclaw41_awake []).bind fun o13 =>
  bif !boolOf (nth AC.dead o13 0) then
   some [AC.bool false]
  else
   (M_cncref23_Small [AC.int IntKind.i64 x0, AC.int IntKind.i64 x1, AC.int IntKind.i64 x2]).bind fun o14 =>
   bif !boolOf (nth AC.dead o14 0) then
    some [AC.bool true]
   else
    (M_cncref23_Small [AC.int IntKind.i64 x3, AC.int IntKind.i64 x4, AC.int IntKind.i64 x5]).bind fun o15 =>
    bif !boolOf (nth AC.dead o15 0) then
     some [AC.bool true]
    else
     (M_cncref23_Small [AC.int IntKind.i64 x6, AC.int IntKind.i64 x7, AC.int IntKind.i64 x8]).bind fun o16 =>
     bif !boolOf (nth AC.dead o16 0) then
      some [AC.bool true]
     else
      (M_cnclaw41_distance [AC.int IntKind.i64 x9]).bind fun o17 =>
      bif !boolOf (nth AC.dead o17 0) then
       some [AC.bool true]
      else
       (M_cnclaw41_beside [AC.int IntKind.i64 x0, AC.int IntKind.i64 x1, AC.int IntKind.i64 x2, AC.int IntKind.i64 x6, AC.int IntKind.i64 x7, AC.int IntKind.i64 x8]).bind fun o18 =>
       (M_cncref23_Small [AC.int IntKind.i64 (intOf (nth AC.dead o18 0)), AC.int IntKind.i64 (intOf (nth AC.dead o18 1)), AC.int IntKind.i64 (intOf (nth AC.dead o18 2))]).bind fun o19 =>
       bif !boolOf (nth AC.dead o19 0) then
        some [AC.bool true]
       else
        (M_contour_OnLine [AC.int IntKind.i64 x0, AC.int IntKind.i64 x1, AC.int IntKind.i64 x2, AC.int IntKind.i64 x3, AC.int IntKind.i64 x4, AC.int IntKind.i64 x5, AC.int IntKind.i64 x6, AC.int IntKind.i64 x7, AC.int IntKind.i64 x8, AC.int IntKind.i64 x9]).bind fun o20 =>
        (M_cncref41_OnLine [AC.int IntKind.i64 x0, AC.int IntKind.i64 x1, AC.int IntKind.i64 x2, AC.int IntKind.i64 x3, AC.int IntKind.i64 x4, AC.int IntKind.i64 x5, AC.int IntKind.i64 x6, AC.int IntKind.i64 x7, AC.int IntKind.i64 x8, AC.int IntKind.i64 x9]).bind fun o21 =>
        bif boolOf (nth AC.dead o20 0) == boolOf (nth AC.dead o21 0) then
         (M_contour_OnLine [AC.int IntKind.i64 x0, AC.int IntKind.i64 x1, AC.int IntKind.i64 x2, AC.int IntKind.i64 x3, AC.int IntKind.i64 x4, AC.int IntKind.i64 x5, AC.int IntKind.i64 (intOf (nth AC.dead o18 0)), AC.int IntKind.i64 (intOf (nth AC.dead o18 1)), AC.int IntKind.i64 (intOf (nth AC.dead o18 2)), AC.int IntKind.i64 (x9.tmod 60)]).bind fun o22 =>
         (M_cncref41_OnLine [AC.int IntKind.i64 x0, AC.int IntKind.i64 x1, AC.int IntKind.i64 x2, AC.int IntKind.i64 x3, AC.int IntKind.i64 x4, AC.int IntKind.i64 x5, AC.int IntKind.i64 (intOf (nth AC.dead o18 0)), AC.int IntKind.i64 (intOf (nth AC.dead o18 1)), AC.int IntKind.i64 (intOf (nth AC.dead o18 2)), AC.int IntKind.i64 (x9.tmod 60)]).bind fun o23 =>
         bif boolOf (nth AC.dead o22 0) == boolOf (nth AC.dead o23 0) then
          (M_contour_OnLine [AC.int IntKind.i64 x3, AC.int IntKind.i64 x4, AC.int IntKind.i64 x5, AC.int IntKind.i64 x0, AC.int IntKind.i64 x1, AC.int IntKind.i64 x2, AC.int IntKind.i64 x6, AC.int IntKind.i64 x7, AC.int IntKind.i64 x8, AC.int IntKind.i64 x9]).bind fun o24 =>
          (M_contour_OnLine [AC.int IntKind.i64 x0, AC.int IntKind.i64 x1, AC.int IntKind.i64 x2, AC.int IntKind.i64 x3, AC.int IntKind.i64 x4, AC.int IntKind.i64 x5, AC.int IntKind.i64 x6, AC.int IntKind.i64 x7, AC.int IntKind.i64 x8, AC.int IntKind.i64 x9]).bind fun o25 =>
          some [AC.bool (boolOf (nth AC.dead o24 0) == boolOf (nth AC.dead o25 0))]
         else
          some [AC.bool false]
        else
         some [AC.bool false] := by kernel_rfl
noncomputable def m_cnclaw41_ContourLine := mf_cnclaw41_ContourLine m_cncref41_OnLine m_contour_OnLine m_cnclaw41_beside m_cnclaw41_distance m_cncref23_Small m_cnclaw41_awake 
theorem sp_cnclaw41_ContourLine : SpecOK Try.prog (C_cnclaw41_ContourLine_0 m_cncref41_OnLine m_contour_OnLine m_cnclaw41_beside m_cnclaw41_distance m_cncref23_Small m_cnclaw41_awake) := specOK_of rfl ⟨r_cncref41_OnLine, r_contour_OnLine, r_cnclaw41_beside, r_cnclaw41_distance, r_cncref23_Small, r_cnclaw41_awake, trivial⟩
theorem r_cnclaw41_ContourLine : RowOK Try.prog (3, spOf sig_cnclaw41_ContourLine osig_cnclaw41_ContourLine m_cnclaw41_ContourLine) := row_of (C := (C_cnclaw41_ContourLine_0 m_cncref41_OnLine m_contour_OnLine m_cnclaw41_beside m_cnclaw41_distance m_cncref23_Small m_cnclaw41_awake)) (L := 64) (sig := sig_cnclaw41_ContourLine) (osig := osig_cnclaw41_ContourLine) (by kernel_rfl) (FnOK.bare rfl rfl rfl) sp_cnclaw41_ContourLine eqOk mixOk (by kernel_rfl) (by kernel_rfl)
theorem c_cnclaw41_ContourLine : ∀ (args : List TV) (v : TV) (mem : Mem), (spOf sig_cnclaw41_ContourLine osig_cnclaw41_ContourLine m_cnclaw41_ContourLine (TV × Mem) args ⟨[], []⟩ fun v m => some (v, m)) = some (v, mem) → PCallM Try.prog 3 args ⟨[], []⟩ v mem := fun args v mem h => callM_of (f := 3) (C := (C_cnclaw41_ContourLine_0 m_cncref41_OnLine m_contour_OnLine m_cnclaw41_beside m_cnclaw41_distance m_cncref23_Small m_cnclaw41_awake)) (L := 64) (sig := sig_cnclaw41_ContourLine) (osig := osig_cnclaw41_ContourLine) (by kernel_rfl) (FnOK.bare rfl rfl rfl) sp_cnclaw41_ContourLine eqOk mixOk (by kernel_rfl) (by kernel_rfl) args v mem h
end Go.Bm
