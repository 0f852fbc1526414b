/- functions of the program and of the references, as models -/
import Derived.Test.YtdllaekpkcanbaaSeShelf
import Derived.Test.YtdllaekpkcanbaaSeExt
import Derived.Test.YtdllaekpkcanbaaSePre
set_option linter.unusedSimpArgs false
set_option linter.unusedVariables false
set_option maxRecDepth 100000
namespace Go.Bm
open Go.Proofs
def sig_cncref24_Rounded : Sk := { tmps := [TS.v false [CS.int .i64], TS.v false [CS.int .i64]], boxes := [], rows := [] }
def osig_cncref24_Rounded : Sk := { tmps := [TS.v false [CS.int .i64]], boxes := [], rows := [] }
noncomputable def C_cncref24_Rounded_0  : Cfg := { spec := lookS [], eqOk := eqAll, ownOff := ownOff }
noncomputable def mf_cncref24_Rounded   : List AC → Option (List AC) := modelF Try.prog C_cncref24_Rounded_0 64 101 sig_cncref24_Rounded osig_cncref24_Rounded
theorem mf_cncref24_Rounded_eq   (x0 : Int) (x1 : Int) : mf_cncref24_Rounded   [AC.int .i64 x0, AC.int .i64 x1] =
  bif decide (IntKind.i64.wrap (2 * x1) = 0) then
   none
  else
   bif decide (IntKind.i64.wrap (2 * x1) = 0) then
    none
   else
    bif decide ((IntKind.i64.wrap (IntKind.i64.wrap (2 * x0) + x1)).tmod (IntKind.i64.wrap (2 * x1)) < 0) then
     some [AC.int IntKind.i64 (IntKind.i64.wrap (IntKind.i64.wrap ((IntKind.i64.wrap (IntKind.i64.wrap (2 * x0) + x1)).tdiv (IntKind.i64.wrap (2 * x1))) - 1))]
    else
     some [AC.int IntKind.i64 (IntKind.i64.wrap ((IntKind.i64.wrap (IntKind.i64.wrap (2 * x0) + x1)).tdiv (IntKind.i64.wrap (2 * x1))))] := by kernel_rfl
noncomputable def m_cncref24_Rounded := mf_cncref24_Rounded  
theorem sp_cncref24_Rounded : SpecOK Try.prog (C_cncref24_Rounded_0 ) := specOK_of rfl trivial
theorem r_cncref24_Rounded : RowOK Try.prog (101, spOf sig_cncref24_Rounded osig_cncref24_Rounded m_cncref24_Rounded) := row_of (C := C_cncref24_Rounded_0) (L := 64) (sig := sig_cncref24_Rounded) (osig := osig_cncref24_Rounded) (by kernel_rfl) (FnOK.bare rfl rfl rfl) sp_cncref24_Rounded eqOk mixOk (by kernel_rfl) (by kernel_rfl)
def sig_cncref25_Rate : Sk := { tmps := [TS.v true [CS.int .i64, CS.int .i64, CS.int .i64, CS.int .i64, CS.int .i64, CS.int .i64, CS.int .i64, CS.int .i64, CS.int .i64, CS.int .i64, CS.int .i64, CS.int .i64, CS.int .i64, CS.bool, CS.int .i64, CS.bool, CS.int .i64, CS.int .i64, CS.int .i64, CS.int .i64, CS.int .i64, CS.bool], TS.v false [CS.int .i64]], boxes := [], rows := [] }
def osig_cncref25_Rate : Sk := { tmps := [TS.v false [CS.int .i64]], boxes := [], rows := [] }
noncomputable def C_cncref25_Rate_0 (M_cncref24_Rounded : List AC → Option (List AC)) : Cfg := { spec := lookS [(101, spOf sig_cncref24_Rounded osig_cncref24_Rounded M_cncref24_Rounded)], eqOk := eqAll, ownOff := ownOff }
noncomputable def mf_cncref25_Rate (M_cncref24_Rounded : List AC → Option (List AC))  : List AC → Option (List AC) := modelF Try.prog (C_cncref25_Rate_0 M_cncref24_Rounded) 64 51 sig_cncref25_Rate osig_cncref25_Rate
theorem mf_cncref25_Rate_eq (M_cncref24_Rounded : List AC → Option (List AC))  (x0 : Int) (x1 : Int) (x2 : Int) (x3 : Int) (x4 : Int) (x5 : Int) (x6 : Int) (x7 : Int) (x8 : Int) (x9 : Int) (x10 : Int) (x11 : Int) (x12 : Int) (x13 : Bool) (x14 : Int) (x15 : Bool) (x16 : Int) (x17 : Int) (x18 : Int) (x19 : Int) (x20 : Int) (x21 : Bool) (x22 : Int) : mf_cncref25_Rate M_cncref24_Rounded  [AC.int .i64 x0, AC.int .i64 x1, AC.int .i64 x2, AC.int .i64 x3, AC.int .i64 x4, AC.int .i64 x5, AC.int .i64 x6, AC.int .i64 x7, AC.int .i64 x8, AC.int .i64 x9, AC.int .i64 x10, AC.int .i64 x11, AC.int .i64 x12, AC.bool x13, AC.int .i64 x14, AC.bool x15, AC.int .i64 x16, AC.int .i64 x17, AC.int .i64 x18, AC.int .i64 x19, AC.int .i64 x20, AC.bool x21, AC.int .i64 x22] =
  bif x0 == 1 then
   some [AC.int IntKind.i64 0]
  else
   bif x15 then
    (M_cncref24_Rounded [AC.int IntKind.i64 (IntKind.i64.wrap (IntKind.i64.wrap (mn (IntKind.i64.wrap (x14 * mx x22 1)) 60000000 * 16) * 256)), AC.int IntKind.i64 60000]).bind fun o2 =>
    some [AC.int IntKind.i64 (mx (intOf (nth AC.dead o2 0)) 1)]
   else
    (M_cncref24_Rounded [AC.int IntKind.i64 (IntKind.i64.wrap (IntKind.i64.wrap (mn x14 60000000 * 16) * 256)), AC.int IntKind.i64 60000]).bind fun o3 =>
    some [AC.int IntKind.i64 (mx (intOf (nth AC.dead o3 0)) 1)] := by kernel_rfl
noncomputable def m_cncref25_Rate := mf_cncref25_Rate m_cncref24_Rounded 
theorem sp_cncref25_Rate : SpecOK Try.prog (C_cncref25_Rate_0 m_cncref24_Rounded) := specOK_of rfl ⟨r_cncref24_Rounded, trivial⟩
theorem r_cncref25_Rate : RowOK Try.prog (51, spOf sig_cncref25_Rate osig_cncref25_Rate m_cncref25_Rate) := row_of (C := (C_cncref25_Rate_0 m_cncref24_Rounded)) (L := 64) (sig := sig_cncref25_Rate) (osig := osig_cncref25_Rate) (by kernel_rfl) (FnOK.bare rfl rfl rfl) sp_cncref25_Rate eqOk mixOk (by kernel_rfl) (by kernel_rfl)
def sig_wide_signed : Sk := { tmps := [TS.v false [CS.int .u64], TS.v false [CS.bool]], boxes := [], rows := [] }
def osig_wide_signed : Sk := { tmps := [TS.tup [(false, [CS.int .i64]), (false, [CS.bool])]], boxes := [], rows := [] }
noncomputable def C_wide_signed_0  : Cfg := { spec := lookS [], eqOk := eqAll, ownOff := ownOff }
noncomputable def mf_wide_signed   : List AC → Option (List AC) := modelF Try.prog C_wide_signed_0 64 146 sig_wide_signed osig_wide_signed
theorem mf_wide_signed_eq   (x0 : Int) (x1 : Bool) : mf_wide_signed   [AC.int .u64 x0, AC.bool x1] =
  bif x1 then
   bif decide (x0 ≤ 9223372036854775808) then
    some [AC.int IntKind.i64 (IntKind.i64.wrap (IntKind.u64.wrap (0 - x0))), AC.bool true]
   else
    bif !x1 then
     bif decide (x0 < 9223372036854775808) then
      some [AC.int IntKind.i64 (IntKind.i64.wrap x0), AC.bool true]
     else
      some [AC.int IntKind.i64 0, AC.bool false]
    else
     some [AC.int IntKind.i64 0, AC.bool false]
  else
   bif !x1 then
    bif decide (x0 < 9223372036854775808) then
     some [AC.int IntKind.i64 (IntKind.i64.wrap x0), AC.bool true]
    else
     some [AC.int IntKind.i64 0, AC.bool false]
   else
    some [AC.int IntKind.i64 0, AC.bool false] := by kernel_rfl
noncomputable def m_wide_signed := mf_wide_signed  
theorem sp_wide_signed : SpecOK Try.prog (C_wide_signed_0 ) := specOK_of rfl trivial
theorem r_wide_signed : RowOK Try.prog (146, spOf sig_wide_signed osig_wide_signed m_wide_signed) := row_of (C := C_wide_signed_0) (L := 64) (sig := sig_wide_signed) (osig := osig_wide_signed) (by kernel_rfl) (FnOK.bare rfl rfl rfl) sp_wide_signed eqOk mixOk (by kernel_rfl) (by kernel_rfl)
def sig_wide_grows : Sk := { tmps := [TS.v false [CS.int .i64], TS.v false [CS.int .i64], TS.v false [CS.bool], TS.v false [CS.bool]], boxes := [], rows := [] }
def osig_wide_grows : Sk := { tmps := [TS.v false [CS.bool]], boxes := [], rows := [] }
noncomputable def C_wide_grows_0  : Cfg := { spec := lookS [], eqOk := eqAll, ownOff := ownOff }
noncomputable def mf_wide_grows   : List AC → Option (List AC) := modelF Try.prog C_wide_grows_0 64 145 sig_wide_grows osig_wide_grows
theorem mf_wide_grows_eq   (x0 : Int) (x1 : Int) (x2 : Bool) (x3 : Bool) : mf_wide_grows   [AC.int .i64 x0, AC.int .i64 x1, AC.bool x2, AC.bool x3] =
  bif x0 == 0 then
   bif x2 then
    some [AC.bool x3]
   else
    some [AC.bool false]
  else
   bif x0 == 1 then
    bif x2 then
     some [AC.bool !x3]
    else
     some [AC.bool false]
   else
    bif decide (x1 > 0) then
     some [AC.bool true]
    else
     bif x1 == 0 then
      some [AC.bool !x3]
     else
      some [AC.bool false] := by kernel_rfl
noncomputable def m_wide_grows := mf_wide_grows  
theorem sp_wide_grows : SpecOK Try.prog (C_wide_grows_0 ) := specOK_of rfl trivial
theorem r_wide_grows : RowOK Try.prog (145, spOf sig_wide_grows osig_wide_grows m_wide_grows) := row_of (C := C_wide_grows_0) (L := 64) (sig := sig_wide_grows) (osig := osig_wide_grows) (by kernel_rfl) (FnOK.bare rfl rfl rfl) sp_wide_grows eqOk mixOk (by kernel_rfl) (by kernel_rfl)
def sig_wide_sign : Sk := { tmps := [TS.v false [CS.int .i64], TS.v false [CS.int .i64]], boxes := [], rows := [] }
def osig_wide_sign : Sk := { tmps := [TS.v false [CS.int .i64]], boxes := [], rows := [] }
noncomputable def C_wide_sign_0  : Cfg := { spec := lookS [], eqOk := eqAll, ownOff := ownOff }
noncomputable def mf_wide_sign   : List AC → Option (List AC) := modelF Try.prog C_wide_sign_0 64 104 sig_wide_sign osig_wide_sign
theorem mf_wide_sign_eq   (x0 : Int) (x1 : Int) : mf_wide_sign   [AC.int .i64 x0, AC.int .i64 x1] =
  bif x0 == 0 then
   some [AC.int IntKind.i64 0]
  else
   bif x1 == 0 then
    some [AC.int IntKind.i64 0]
   else
    bif decide (x0 < 0) == decide (x1 < 0) then
     some [AC.int IntKind.i64 1]
    else
     some [AC.int IntKind.i64 (-1)] := by kernel_rfl
noncomputable def m_wide_sign := mf_wide_sign  
theorem sp_wide_sign : SpecOK Try.prog (C_wide_sign_0 ) := specOK_of rfl trivial
theorem r_wide_sign : RowOK Try.prog (104, spOf sig_wide_sign osig_wide_sign m_wide_sign) := row_of (C := C_wide_sign_0) (L := 64) (sig := sig_wide_sign) (osig := osig_wide_sign) (by kernel_rfl) (FnOK.bare rfl rfl rfl) sp_wide_sign eqOk mixOk (by kernel_rfl) (by kernel_rfl)
def sig_bits_Div64 : Sk := { tmps := [TS.v false [CS.int .u64], TS.v false [CS.int .u64], TS.v false [CS.int .u64]], boxes := [], rows := [] }
def osig_bits_Div64 : Sk := { tmps := [TS.tup [(false, [CS.int .u64]), (false, [CS.int .u64])]], boxes := [], rows := [] }
noncomputable def C_bits_Div64_0 (M_bits_LeadingZeros64 : List AC → Option (List AC)) : Cfg := { spec := lookS [(164, spOf sig_bits_LeadingZeros64 osig_bits_LeadingZeros64 M_bits_LeadingZeros64)], eqOk := eqAll, ownOff := ownOff }
def sk_bits_Div64_17 : Sk := { tmps := [TS.dead, TS.dead, TS.v false [CS.int .u64], TS.dead, TS.dead, TS.dead, TS.dead, TS.dead, TS.v false [CS.int .u64], TS.v false [CS.int .u64], TS.v false [CS.int .u64], TS.v false [CS.int .u64], TS.dead, TS.v false [CS.int .u64], TS.v false [CS.int .u64], TS.v false [CS.int .u64], TS.v false [CS.int .u64]] ++ dd 118, boxes := [], rows := [] }
def ex_bits_Div64_17 : List (Ex × Sk) := [(Ex.exit 0, { tmps := [TS.dead, TS.dead, TS.v false [CS.int .u64], TS.dead, TS.dead, TS.dead, TS.dead, TS.dead, TS.v false [CS.int .u64], TS.v false [CS.int .u64], TS.v false [CS.int .u64], TS.v false [CS.int .u64], TS.dead, TS.v false [CS.int .u64], TS.v false [CS.int .u64], TS.v false [CS.int .u64]] ++ dd 119, boxes := [], rows := [] })]
noncomputable def st_bits_Div64_17 (M_bits_LeadingZeros64 : List AC → Option (List AC))  : List AC → Option (Nat × List AC) := stepL Try.prog (C_bits_Div64_0 M_bits_LeadingZeros64) 64 17 (bodyOf Try.prog 144 17) sk_bits_Div64_17 ex_bits_Div64_17
noncomputable def C_bits_Div64_1 (M_bits_LeadingZeros64 : List AC → Option (List AC))  (N17 : List AC → Option (Nat × List AC)) : Cfg := (C_bits_Div64_0 M_bits_LeadingZeros64).loop 17 sk_bits_Div64_17 ex_bits_Div64_17 N17
def sk_bits_Div64_24 : Sk := { tmps := [TS.dead, TS.dead, TS.v false [CS.int .u64], TS.dead, TS.dead, TS.dead, TS.dead, TS.dead, TS.v false [CS.int .u64], TS.v false [CS.int .u64], TS.v false [CS.int .u64], TS.dead, TS.dead, TS.dead, TS.v false [CS.int .u64], TS.v false [CS.int .u64], TS.v false [CS.int .u64], TS.v false [CS.int .u64], TS.v false [CS.int .u64]] ++ dd 116, boxes := [], rows := [] }
def ex_bits_Div64_24 : List (Ex × Sk) := [(Ex.exit 2, { tmps := [TS.dead, TS.dead, TS.v false [CS.int .u64], TS.dead, TS.dead, TS.dead, TS.dead, TS.dead, TS.v false [CS.int .u64], TS.dead, TS.dead, TS.dead, TS.dead, TS.dead, TS.v false [CS.int .u64], TS.v false [CS.int .u64], TS.dead, TS.v false [CS.int .u64], TS.v false [CS.int .u64]] ++ dd 116, boxes := [], rows := [] })]
noncomputable def st_bits_Div64_24 (M_bits_LeadingZeros64 : List AC → Option (List AC))  (N17 : List AC → Option (Nat × List AC)) : List AC → Option (Nat × List AC) := stepL Try.prog (C_bits_Div64_1 M_bits_LeadingZeros64 N17) 64 24 (bodyOf Try.prog 144 24) sk_bits_Div64_24 ex_bits_Div64_24
noncomputable def C_bits_Div64_2 (M_bits_LeadingZeros64 : List AC → Option (List AC))  (N17 : List AC → Option (Nat × List AC)) (N24 : List AC → Option (Nat × List AC)) : Cfg := (C_bits_Div64_1 M_bits_LeadingZeros64 N17).loop 24 sk_bits_Div64_24 ex_bits_Div64_24 N24
noncomputable def mf_bits_Div64 (M_bits_LeadingZeros64 : List AC → Option (List AC))  (N17 : List AC → Option (Nat × List AC)) (N24 : List AC → Option (Nat × List AC)) : List AC → Option (List AC) := modelF Try.prog (C_bits_Div64_2 M_bits_LeadingZeros64 N17 N24) 64 144 sig_bits_Div64 osig_bits_Div64
theorem st_bits_Div64_17_eq (M_bits_LeadingZeros64 : List AC → Option (List AC))  (v0 : Int) (v1 : Int) (v2 : Int) (v3 : Int) (v4 : Int) (v5 : Int) (v6 : Int) (v7 : Int) (v8 : Int) : st_bits_Div64_17 M_bits_LeadingZeros64  [AC.int .u64 v0, AC.int .u64 v1, AC.int .u64 v2, AC.int .u64 v3, AC.int .u64 v4, AC.int .u64 v5, AC.int .u64 v6, AC.int .u64 v7, AC.int .u64 v8] =
  bif decide (v7 ≥ 4294967296) then
   bif decide (IntKind.u64.wrap (v8 + v2) ≥ 4294967296) then
    some (1, [AC.int IntKind.u64 v0, AC.int IntKind.u64 v1, AC.int IntKind.u64 v2, AC.int IntKind.u64 v3, AC.int IntKind.u64 v4, AC.int IntKind.u64 v5, AC.int IntKind.u64 v6, AC.int IntKind.u64 (IntKind.u64.wrap (v7 - 1))])
   else
    some (0, [AC.int IntKind.u64 v0, AC.int IntKind.u64 v1, AC.int IntKind.u64 v2, AC.int IntKind.u64 v3, AC.int IntKind.u64 v4, AC.int IntKind.u64 v5, AC.int IntKind.u64 v6, AC.int IntKind.u64 (IntKind.u64.wrap (v7 - 1)), AC.int IntKind.u64 (IntKind.u64.wrap (v8 + v2))])
  else
   bif decide (IntKind.u64.wrap (v7 * v3) > IntKind.u64.wrap (IntKind.u64.wrap (4294967296 * v8) + v5)) then
    bif decide (IntKind.u64.wrap (v8 + v2) ≥ 4294967296) then
     some (1, [AC.int IntKind.u64 v0, AC.int IntKind.u64 v1, AC.int IntKind.u64 v2, AC.int IntKind.u64 v3, AC.int IntKind.u64 v4, AC.int IntKind.u64 v5, AC.int IntKind.u64 v6, AC.int IntKind.u64 (IntKind.u64.wrap (v7 - 1))])
    else
     some (0, [AC.int IntKind.u64 v0, AC.int IntKind.u64 v1, AC.int IntKind.u64 v2, AC.int IntKind.u64 v3, AC.int IntKind.u64 v4, AC.int IntKind.u64 v5, AC.int IntKind.u64 v6, AC.int IntKind.u64 (IntKind.u64.wrap (v7 - 1)), AC.int IntKind.u64 (IntKind.u64.wrap (v8 + v2))])
   else
    some (1, [AC.int IntKind.u64 v0, AC.int IntKind.u64 v1, AC.int IntKind.u64 v2, AC.int IntKind.u64 v3, AC.int IntKind.u64 v4, AC.int IntKind.u64 v5, AC.int IntKind.u64 v6, AC.int IntKind.u64 v7]) := by kernel_rfl
theorem st_bits_Div64_24_eq (M_bits_LeadingZeros64 : List AC → Option (List AC))  (N17 : List AC → Option (Nat × List AC)) (v0 : Int) (v1 : Int) (v2 : Int) (v3 : Int) (v4 : Int) (v5 : Int) (v6 : Int) (v7 : Int) (v8 : Int) : st_bits_Div64_24 M_bits_LeadingZeros64  N17 [AC.int .u64 v0, AC.int .u64 v1, AC.int .u64 v2, AC.int .u64 v3, AC.int .u64 v4, AC.int .u64 v5, AC.int .u64 v6, AC.int .u64 v7, AC.int .u64 v8] =
  bif decide (v8 ≥ 4294967296) then
   bif decide (IntKind.u64.wrap (v6 + v2) ≥ 4294967296) then
    some (1, [AC.int IntKind.u64 v0, AC.int IntKind.u64 v1, AC.int IntKind.u64 v4, AC.int IntKind.u64 v5, AC.int IntKind.u64 v7, AC.int IntKind.u64 (IntKind.u64.wrap (v8 - 1))])
   else
    some (0, [AC.int IntKind.u64 v0, AC.int IntKind.u64 v1, AC.int IntKind.u64 v2, AC.int IntKind.u64 v3, AC.int IntKind.u64 v4, AC.int IntKind.u64 v5, AC.int IntKind.u64 (IntKind.u64.wrap (v6 + v2)), AC.int IntKind.u64 v7, AC.int IntKind.u64 (IntKind.u64.wrap (v8 - 1))])
  else
   bif decide (IntKind.u64.wrap (v8 * v3) > IntKind.u64.wrap (IntKind.u64.wrap (4294967296 * v6) + v4)) then
    bif decide (IntKind.u64.wrap (v6 + v2) ≥ 4294967296) then
     some (1, [AC.int IntKind.u64 v0, AC.int IntKind.u64 v1, AC.int IntKind.u64 v4, AC.int IntKind.u64 v5, AC.int IntKind.u64 v7, AC.int IntKind.u64 (IntKind.u64.wrap (v8 - 1))])
    else
     some (0, [AC.int IntKind.u64 v0, AC.int IntKind.u64 v1, AC.int IntKind.u64 v2, AC.int IntKind.u64 v3, AC.int IntKind.u64 v4, AC.int IntKind.u64 v5, AC.int IntKind.u64 (IntKind.u64.wrap (v6 + v2)), AC.int IntKind.u64 v7, AC.int IntKind.u64 (IntKind.u64.wrap (v8 - 1))])
   else
    some (1, [AC.int IntKind.u64 v0, AC.int IntKind.u64 v1, AC.int IntKind.u64 v4, AC.int IntKind.u64 v5, AC.int IntKind.u64 v7, AC.int IntKind.u64 v8]) := by kernel_rfl
theorem mf_bits_Div64_eq (M_bits_LeadingZeros64 : List AC → Option (List AC))  (N17 : List AC → Option (Nat × List AC)) (N24 : List AC → Option (Nat × List AC)) (x0 : Int) (x1 : Int) (x2 : Int) : mf_bits_Div64 M_bits_LeadingZeros64  N17 N24 [AC.int .u64 x0, AC.int .u64 x1, AC.int .u64 x2] =
  bif x2 == 0 then
   none
  else
   bif decide (x2 ≤ x0) then
    none
   else
    bif x0 == 0 then
     bif decide (x2 = 0) then
      none
     else
      bif decide (x2 = 0) then
       none
      else
       some [AC.int IntKind.u64 (IntKind.u64.wrap (x1.tdiv x2)), AC.int IntKind.u64 (x1.tmod x2)]
    else
     (M_bits_LeadingZeros64 [AC.int IntKind.u64 x2]).bind fun o6 =>
     bif decide (IntKind.u64.wrap (intOf (nth AC.dead o6 0)) < 0) then
      none
     else
      bif decide (IntKind.u64.wrap (intOf (nth AC.dead o6 0)) < 0) then
       none
      else
       bif decide (IntKind.u64.wrap (64 - IntKind.u64.wrap (intOf (nth AC.dead o6 0))) < 0) then
        none
       else
        bif decide (IntKind.u64.wrap (intOf (nth AC.dead o6 0)) < 0) then
         none
        else
         bif decide ((IntKind.u64.wrap (x2 * 2 ^ min (IntKind.u64.wrap (intOf (nth AC.dead o6 0))).toNat IntKind.u64.bits)).fdiv (2 ^ min (Int.toNat 32) IntKind.u64.bits) = 0) then
          none
         else
          (N17 [AC.int IntKind.u64 (IntKind.u64.wrap (x2 * 2 ^ min (IntKind.u64.wrap (intOf (nth AC.dead o6 0))).toNat IntKind.u64.bits)), AC.int IntKind.u64 (IntKind.u64.wrap (intOf (nth AC.dead o6 0))), AC.int IntKind.u64 ((IntKind.u64.wrap (x2 * 2 ^ min (IntKind.u64.wrap (intOf (nth AC.dead o6 0))).toNat IntKind.u64.bits)).fdiv (2 ^ min (Int.toNat 32) IntKind.u64.bits)), AC.int IntKind.u64 (IntKind.u64.wrap (↑(BitVec.ofInt IntKind.u64.bits (IntKind.u64.wrap (x2 * 2 ^ min (IntKind.u64.wrap (intOf (nth AC.dead o6 0))).toNat IntKind.u64.bits)) &&& BitVec.ofInt IntKind.u64.bits 4294967295).toNat : Int)), AC.int IntKind.u64 (IntKind.u64.wrap (↑(BitVec.ofInt IntKind.u64.bits (IntKind.u64.wrap (x0 * 2 ^ min (IntKind.u64.wrap (intOf (nth AC.dead o6 0))).toNat IntKind.u64.bits)) ||| BitVec.ofInt IntKind.u64.bits (x1.fdiv (2 ^ min (IntKind.u64.wrap (64 - IntKind.u64.wrap (intOf (nth AC.dead o6 0)))).toNat IntKind.u64.bits))).toNat : Int)), AC.int IntKind.u64 ((IntKind.u64.wrap (x1 * 2 ^ min (IntKind.u64.wrap (intOf (nth AC.dead o6 0))).toNat IntKind.u64.bits)).fdiv (2 ^ min (Int.toNat 32) IntKind.u64.bits)), AC.int IntKind.u64 (IntKind.u64.wrap (↑(BitVec.ofInt IntKind.u64.bits (IntKind.u64.wrap (x1 * 2 ^ min (IntKind.u64.wrap (intOf (nth AC.dead o6 0))).toNat IntKind.u64.bits)) &&& BitVec.ofInt IntKind.u64.bits 4294967295).toNat : Int)), AC.int IntKind.u64 (IntKind.u64.wrap ((IntKind.u64.wrap (↑(BitVec.ofInt IntKind.u64.bits (IntKind.u64.wrap (x0 * 2 ^ min (IntKind.u64.wrap (intOf (nth AC.dead o6 0))).toNat IntKind.u64.bits)) ||| BitVec.ofInt IntKind.u64.bits (x1.fdiv (2 ^ min (IntKind.u64.wrap (64 - IntKind.u64.wrap (intOf (nth AC.dead o6 0)))).toNat IntKind.u64.bits))).toNat : Int)).tdiv ((IntKind.u64.wrap (x2 * 2 ^ min (IntKind.u64.wrap (intOf (nth AC.dead o6 0))).toNat IntKind.u64.bits)).fdiv (2 ^ min (Int.toNat 32) IntKind.u64.bits)))), AC.int IntKind.u64 (IntKind.u64.wrap (IntKind.u64.wrap (↑(BitVec.ofInt IntKind.u64.bits (IntKind.u64.wrap (x0 * 2 ^ min (IntKind.u64.wrap (intOf (nth AC.dead o6 0))).toNat IntKind.u64.bits)) ||| BitVec.ofInt IntKind.u64.bits (x1.fdiv (2 ^ min (IntKind.u64.wrap (64 - IntKind.u64.wrap (intOf (nth AC.dead o6 0)))).toNat IntKind.u64.bits))).toNat : Int) - IntKind.u64.wrap (IntKind.u64.wrap ((IntKind.u64.wrap (↑(BitVec.ofInt IntKind.u64.bits (IntKind.u64.wrap (x0 * 2 ^ min (IntKind.u64.wrap (intOf (nth AC.dead o6 0))).toNat IntKind.u64.bits)) ||| BitVec.ofInt IntKind.u64.bits (x1.fdiv (2 ^ min (IntKind.u64.wrap (64 - IntKind.u64.wrap (intOf (nth AC.dead o6 0)))).toNat IntKind.u64.bits))).toNat : Int)).tdiv ((IntKind.u64.wrap (x2 * 2 ^ min (IntKind.u64.wrap (intOf (nth AC.dead o6 0))).toNat IntKind.u64.bits)).fdiv (2 ^ min (Int.toNat 32) IntKind.u64.bits))) * (IntKind.u64.wrap (x2 * 2 ^ min (IntKind.u64.wrap (intOf (nth AC.dead o6 0))).toNat IntKind.u64.bits)).fdiv (2 ^ min (Int.toNat 32) IntKind.u64.bits))))]).bind fun o7 =>
          bif o7.fst.beq 1 then
           bif decide (intOf (nth AC.dead o7.snd 2) = 0) then
            none
           else
            (N24 [AC.int IntKind.u64 (intOf (nth AC.dead o7.snd 0)), AC.int IntKind.u64 (intOf (nth AC.dead o7.snd 1)), AC.int IntKind.u64 (intOf (nth AC.dead o7.snd 2)), AC.int IntKind.u64 (intOf (nth AC.dead o7.snd 3)), AC.int IntKind.u64 (intOf (nth AC.dead o7.snd 6)), AC.int IntKind.u64 (intOf (nth AC.dead o7.snd 7)), AC.int IntKind.u64 (IntKind.u64.wrap (IntKind.u64.wrap (IntKind.u64.wrap (IntKind.u64.wrap (intOf (nth AC.dead o7.snd 4) * 4294967296) + intOf (nth AC.dead o7.snd 5)) - IntKind.u64.wrap (intOf (nth AC.dead o7.snd 7) * intOf (nth AC.dead o7.snd 0))) - IntKind.u64.wrap (IntKind.u64.wrap ((IntKind.u64.wrap (IntKind.u64.wrap (IntKind.u64.wrap (intOf (nth AC.dead o7.snd 4) * 4294967296) + intOf (nth AC.dead o7.snd 5)) - IntKind.u64.wrap (intOf (nth AC.dead o7.snd 7) * intOf (nth AC.dead o7.snd 0)))).tdiv (intOf (nth AC.dead o7.snd 2))) * intOf (nth AC.dead o7.snd 2)))), AC.int IntKind.u64 (IntKind.u64.wrap (IntKind.u64.wrap (IntKind.u64.wrap (intOf (nth AC.dead o7.snd 4) * 4294967296) + intOf (nth AC.dead o7.snd 5)) - IntKind.u64.wrap (intOf (nth AC.dead o7.snd 7) * intOf (nth AC.dead o7.snd 0)))), AC.int IntKind.u64 (IntKind.u64.wrap ((IntKind.u64.wrap (IntKind.u64.wrap (IntKind.u64.wrap (intOf (nth AC.dead o7.snd 4) * 4294967296) + intOf (nth AC.dead o7.snd 5)) - IntKind.u64.wrap (intOf (nth AC.dead o7.snd 7) * intOf (nth AC.dead o7.snd 0)))).tdiv (intOf (nth AC.dead o7.snd 2))))]).bind fun o8 =>
            bif o8.fst.beq 1 then
             bif decide (intOf (nth AC.dead o8.snd 1) < 0) then
              none
             else
              some [AC.int IntKind.u64 (IntKind.u64.wrap (IntKind.u64.wrap (intOf (nth AC.dead o8.snd 3) * 4294967296) + intOf (nth AC.dead o8.snd 5))), AC.int IntKind.u64 ((IntKind.u64.wrap (IntKind.u64.wrap (IntKind.u64.wrap (intOf (nth AC.dead o8.snd 4) * 4294967296) + intOf (nth AC.dead o8.snd 2)) - IntKind.u64.wrap (intOf (nth AC.dead o8.snd 5) * intOf (nth AC.dead o8.snd 0)))).fdiv (2 ^ min (intOf (nth AC.dead o8.snd 1)).toNat IntKind.u64.bits))]
            else
             none
          else
           none := by kernel_rfl
noncomputable def l_bits_Div64_17 := loopC (st_bits_Div64_17 m_bits_LeadingZeros64 )
noncomputable def l_bits_Div64_24 := loopC (st_bits_Div64_24 m_bits_LeadingZeros64  l_bits_Div64_17)
noncomputable def m_bits_Div64 := mf_bits_Div64 m_bits_LeadingZeros64  l_bits_Div64_17 l_bits_Div64_24
theorem sp_bits_Div64 : SpecOK Try.prog (C_bits_Div64_0 m_bits_LeadingZeros64) := specOK_of rfl ⟨r_bits_LeadingZeros64, trivial⟩
theorem r_bits_Div64 : RowOK Try.prog (144, spOf sig_bits_Div64 osig_bits_Div64 m_bits_Div64) := row_of (C := (C_bits_Div64_2 m_bits_LeadingZeros64 l_bits_Div64_17 l_bits_Div64_24)) (L := 64) (sig := sig_bits_Div64) (osig := osig_bits_Div64) (by kernel_rfl) (((FnOK.bare rfl rfl rfl).loop sp_bits_Div64 eqOk mixOk (by kernel_rfl) (by kernel_rfl)).loop sp_bits_Div64 eqOk mixOk (by kernel_rfl) (by kernel_rfl)) sp_bits_Div64 eqOk mixOk (by kernel_rfl) (by kernel_rfl)
def sig_wide_product : Sk := { tmps := [TS.v false [CS.int .u64], TS.v false [CS.int .u64]], boxes := [], rows := [] }
def osig_wide_product : Sk := { tmps := [TS.v true [CS.int .u64, CS.int .u64]], boxes := [], rows := [] }
noncomputable def C_wide_product_0 (M_bits_Mul64 : List AC → Option (List AC)) : Cfg := { spec := lookS [(147, spOf sig_bits_Mul64 osig_bits_Mul64 M_bits_Mul64)], eqOk := eqAll, ownOff := ownOff }
noncomputable def mf_wide_product (M_bits_Mul64 : List AC → Option (List AC))  : List AC → Option (List AC) := modelF Try.prog (C_wide_product_0 M_bits_Mul64) 64 106 sig_wide_product osig_wide_product
theorem mf_wide_product_eq (M_bits_Mul64 : List AC → Option (List AC))  (x0 : Int) (x1 : Int) : mf_wide_product M_bits_Mul64  [AC.int .u64 x0, AC.int .u64 x1] =
  (M_bits_Mul64 [AC.int IntKind.u64 x0, AC.int IntKind.u64 x1]).bind fun o1 =>
  some [AC.int IntKind.u64 (intOf (nth AC.dead o1 0)), AC.int IntKind.u64 (intOf (nth AC.dead o1 1))] := by kernel_rfl
noncomputable def m_wide_product := mf_wide_product m_bits_Mul64 
theorem sp_wide_product : SpecOK Try.prog (C_wide_product_0 m_bits_Mul64) := specOK_of rfl ⟨r_bits_Mul64, trivial⟩
theorem r_wide_product : RowOK Try.prog (106, spOf sig_wide_product osig_wide_product m_wide_product) := row_of (C := (C_wide_product_0 m_bits_Mul64)) (L := 64) (sig := sig_wide_product) (osig := osig_wide_product) (by kernel_rfl) (FnOK.bare rfl rfl rfl) sp_wide_product eqOk mixOk (by kernel_rfl) (by kernel_rfl)
def sig_wide_size : Sk := { tmps := [TS.v false [CS.int .i64]], boxes := [], rows := [] }
def osig_wide_size : Sk := { tmps := [TS.v false [CS.int .u64]], boxes := [], rows := [] }
noncomputable def C_wide_size_0  : Cfg := { spec := lookS [], eqOk := eqAll, ownOff := ownOff }
noncomputable def mf_wide_size   : List AC → Option (List AC) := modelF Try.prog C_wide_size_0 64 107 sig_wide_size osig_wide_size
theorem mf_wide_size_eq   (x0 : Int) : mf_wide_size   [AC.int .i64 x0] =
  bif decide (x0 < 0) then
   some [AC.int IntKind.u64 (IntKind.u64.wrap (IntKind.u64.wrap (IntKind.i64.wrap (0 - IntKind.i64.wrap (x0 + 1))) + 1))]
  else
   some [AC.int IntKind.u64 (IntKind.u64.wrap x0)] := by kernel_rfl
noncomputable def m_wide_size := mf_wide_size  
theorem sp_wide_size : SpecOK Try.prog (C_wide_size_0 ) := specOK_of rfl trivial
theorem r_wide_size : RowOK Try.prog (107, spOf sig_wide_size osig_wide_size m_wide_size) := row_of (C := C_wide_size_0) (L := 64) (sig := sig_wide_size) (osig := osig_wide_size) (by kernel_rfl) (FnOK.bare rfl rfl rfl) sp_wide_size eqOk mixOk (by kernel_rfl) (by kernel_rfl)
def sig_wide_known : Sk := { tmps := [TS.v false [CS.int .i64]], boxes := [], rows := [] }
def osig_wide_known : Sk := { tmps := [TS.v false [CS.bool]], boxes := [], rows := [] }
noncomputable def C_wide_known_0  : Cfg := { spec := lookS [], eqOk := eqAll, ownOff := ownOff }
noncomputable def mf_wide_known   : List AC → Option (List AC) := modelF Try.prog C_wide_known_0 64 143 sig_wide_known osig_wide_known
theorem mf_wide_known_eq   (x0 : Int) : mf_wide_known   [AC.int .i64 x0] =
  bif x0 == 0 then
   some [AC.bool true]
  else
   bif x0 == 1 then
    some [AC.bool true]
   else
    some [AC.bool (x0 == 2)] := by kernel_rfl
noncomputable def m_wide_known := mf_wide_known  
theorem sp_wide_known : SpecOK Try.prog (C_wide_known_0 ) := specOK_of rfl trivial
theorem r_wide_known : RowOK Try.prog (143, spOf sig_wide_known osig_wide_known m_wide_known) := row_of (C := C_wide_known_0) (L := 64) (sig := sig_wide_known) (osig := osig_wide_known) (by kernel_rfl) (FnOK.bare rfl rfl rfl) sp_wide_known eqOk mixOk (by kernel_rfl) (by kernel_rfl)
def sig_wide_MulDiv : Sk := { tmps := [TS.v false [CS.int .i64], TS.v false [CS.int .i64], TS.v false [CS.int .i64], TS.v false [CS.int .i64]], boxes := [], rows := [] }
def osig_wide_MulDiv : Sk := { tmps := [TS.tup [(false, [CS.int .i64]), (false, [CS.bool])]], boxes := [], rows := [] }
noncomputable def C_wide_MulDiv_0 (M_wide_signed : List AC → Option (List AC)) (M_wide_grows : List AC → Option (List AC)) (M_wide_sign : List AC → Option (List AC)) (M_bits_Div64 : List AC → Option (List AC)) (M_wide_product : List AC → Option (List AC)) (M_wide_size : List AC → Option (List AC)) (M_wide_known : List AC → Option (List AC)) : Cfg := { spec := lookS [(146, spOf sig_wide_signed osig_wide_signed M_wide_signed), (145, spOf sig_wide_grows osig_wide_grows M_wide_grows), (104, spOf sig_wide_sign osig_wide_sign M_wide_sign), (144, spOf sig_bits_Div64 osig_bits_Div64 M_bits_Div64), (106, spOf sig_wide_product osig_wide_product M_wide_product), (107, spOf sig_wide_size osig_wide_size M_wide_size), (143, spOf sig_wide_known osig_wide_known M_wide_known)], eqOk := eqAll, ownOff := ownOff }
noncomputable def mf_wide_MulDiv (M_wide_signed : List AC → Option (List AC)) (M_wide_grows : List AC → Option (List AC)) (M_wide_sign : List AC → Option (List AC)) (M_bits_Div64 : List AC → Option (List AC)) (M_wide_product : List AC → Option (List AC)) (M_wide_size : List AC → Option (List AC)) (M_wide_known : List AC → Option (List AC))  : List AC → Option (List AC) := modelF Try.prog (C_wide_MulDiv_0 M_wide_signed M_wide_grows M_wide_sign M_bits_Div64 M_wide_product M_wide_size M_wide_known) 64 98 sig_wide_MulDiv osig_wide_MulDiv
theorem mf_wide_MulDiv_eq (M_wide_signed : List AC → Option (List AC)) (M_wide_grows : List AC → Option (List AC)) (M_wide_sign : List AC → Option (List AC)) (M_bits_Div64 : List AC → Option (List AC)) (M_wide_product : List AC → Option (List AC)) (M_wide_size : List AC → Option (List AC)) (M_wide_known : List AC → Option (List AC))  (x0 : Int) (x1 : Int) (x2 : Int) (x3 : Int) : mf_wide_MulDiv M_wide_signed M_wide_grows M_wide_sign M_bits_Div64 M_wide_product M_wide_size M_wide_known  [AC.int .i64 x0, AC.int .i64 x1, AC.int .i64 x2, AC.int .i64 x3] =
  bif x2 == 0 then
   some [AC.int IntKind.i64 0, AC.bool false]
  else
   (M_wide_known [AC.int IntKind.i64 x3]).bind fun o26 =>
   bif !boolOf (nth AC.dead o26 0) then
    some [AC.int IntKind.i64 0, AC.bool false]
   else
    (M_wide_size [AC.int IntKind.i64 x0]).bind fun o27 =>
    (M_wide_size [AC.int IntKind.i64 x1]).bind fun o28 =>
    (M_wide_product [AC.int IntKind.u64 (intOf (nth AC.dead o27 0)), AC.int IntKind.u64 (intOf (nth AC.dead o28 0))]).bind fun o29 =>
    (M_wide_size [AC.int IntKind.i64 x2]).bind fun o30 =>
    bif decide (intOf (nth AC.dead o29 0) ≥ intOf (nth AC.dead o30 0)) then
     some [AC.int IntKind.i64 0, AC.bool false]
    else
     (M_bits_Div64 [AC.int IntKind.u64 (intOf (nth AC.dead o29 0)), AC.int IntKind.u64 (intOf (nth AC.dead o29 1)), AC.int IntKind.u64 (intOf (nth AC.dead o30 0))]).bind fun o31 =>
     (M_wide_sign [AC.int IntKind.i64 x0, AC.int IntKind.i64 x1]).bind fun o32 =>
     bif !decide (intOf (nth AC.dead o32 0) < 0) == decide (x2 < 0) then
      (M_wide_sign [AC.int IntKind.i64 x0, AC.int IntKind.i64 x1]).bind fun o33 =>
      bif decide (intOf (nth AC.dead o31 1) > IntKind.u64.wrap (intOf (nth AC.dead o30 0) - intOf (nth AC.dead o31 1))) then
       (M_wide_grows [AC.int IntKind.i64 x3, AC.int IntKind.i64 1, AC.bool (decide (intOf (nth AC.dead o31 1) > 0)), AC.bool (intOf (nth AC.dead o33 0) != 0)]).bind fun o34 =>
       bif boolOf (nth AC.dead o34 0) then
        bif IntKind.u64.wrap (intOf (nth AC.dead o31 0) + 1) == 0 then
         some [AC.int IntKind.i64 0, AC.bool false]
        else
         (M_wide_signed [AC.int IntKind.u64 (IntKind.u64.wrap (intOf (nth AC.dead o31 0) + 1)), AC.bool (intOf (nth AC.dead o33 0) != 0)]).bind fun o35 =>
         some [AC.int IntKind.i64 (intOf (nth AC.dead o35 0)), AC.bool (boolOf (nth AC.dead o35 1))]
       else
        (M_wide_signed [AC.int IntKind.u64 (intOf (nth AC.dead o31 0)), AC.bool (intOf (nth AC.dead o33 0) != 0)]).bind fun o36 =>
        some [AC.int IntKind.i64 (intOf (nth AC.dead o36 0)), AC.bool (boolOf (nth AC.dead o36 1))]
      else
       bif decide (intOf (nth AC.dead o31 1) < IntKind.u64.wrap (intOf (nth AC.dead o30 0) - intOf (nth AC.dead o31 1))) then
        (M_wide_grows [AC.int IntKind.i64 x3, AC.int IntKind.i64 (-1), AC.bool (decide (intOf (nth AC.dead o31 1) > 0)), AC.bool (intOf (nth AC.dead o33 0) != 0)]).bind fun o37 =>
        bif boolOf (nth AC.dead o37 0) then
         bif IntKind.u64.wrap (intOf (nth AC.dead o31 0) + 1) == 0 then
          some [AC.int IntKind.i64 0, AC.bool false]
         else
          (M_wide_signed [AC.int IntKind.u64 (IntKind.u64.wrap (intOf (nth AC.dead o31 0) + 1)), AC.bool (intOf (nth AC.dead o33 0) != 0)]).bind fun o38 =>
          some [AC.int IntKind.i64 (intOf (nth AC.dead o38 0)), AC.bool (boolOf (nth AC.dead o38 1))]
        else
         (M_wide_signed [AC.int IntKind.u64 (intOf (nth AC.dead o31 0)), AC.bool (intOf (nth AC.dead o33 0) != 0)]).bind fun o39 =>
         some [AC.int IntKind.i64 (intOf (nth AC.dead o39 0)), AC.bool (boolOf (nth AC.dead o39 1))]
       else
        (M_wide_grows [AC.int IntKind.i64 x3, AC.int IntKind.i64 0, AC.bool (decide (intOf (nth AC.dead o31 1) > 0)), AC.bool (intOf (nth AC.dead o33 0) != 0)]).bind fun o40 =>
        bif boolOf (nth AC.dead o40 0) then
         bif IntKind.u64.wrap (intOf (nth AC.dead o31 0) + 1) == 0 then
          some [AC.int IntKind.i64 0, AC.bool false]
         else
          (M_wide_signed [AC.int IntKind.u64 (IntKind.u64.wrap (intOf (nth AC.dead o31 0) + 1)), AC.bool (intOf (nth AC.dead o33 0) != 0)]).bind fun o41 =>
          some [AC.int IntKind.i64 (intOf (nth AC.dead o41 0)), AC.bool (boolOf (nth AC.dead o41 1))]
        else
         (M_wide_signed [AC.int IntKind.u64 (intOf (nth AC.dead o31 0)), AC.bool (intOf (nth AC.dead o33 0) != 0)]).bind fun o42 =>
         some [AC.int IntKind.i64 (intOf (nth AC.dead o42 0)), AC.bool (boolOf (nth AC.dead o42 1))]
     else
      bif decide (intOf (nth AC.dead o31 1) > IntKind.u64.wrap (intOf (nth AC.dead o30 0) - intOf (nth AC.dead o31 1))) then
       (M_wide_grows [AC.int IntKind.i64 x3, AC.int IntKind.i64 1, AC.bool (decide (intOf (nth AC.dead o31 1) > 0)), AC.bool false]).bind fun o43 =>
       bif boolOf (nth AC.dead o43 0) then
        bif IntKind.u64.wrap (intOf (nth AC.dead o31 0) + 1) == 0 then
         some [AC.int IntKind.i64 0, AC.bool false]
        else
         (M_wide_signed [AC.int IntKind.u64 (IntKind.u64.wrap (intOf (nth AC.dead o31 0) + 1)), AC.bool false]).bind fun o44 =>
         some [AC.int IntKind.i64 (intOf (nth AC.dead o44 0)), AC.bool (boolOf (nth AC.dead o44 1))]
       else
        (M_wide_signed [AC.int IntKind.u64 (intOf (nth AC.dead o31 0)), AC.bool false]).bind fun o45 =>
        some [AC.int IntKind.i64 (intOf (nth AC.dead o45 0)), AC.bool (boolOf (nth AC.dead o45 1))]
      else
       bif decide (intOf (nth AC.dead o31 1) < IntKind.u64.wrap (intOf (nth AC.dead o30 0) - intOf (nth AC.dead o31 1))) then
        (M_wide_grows [AC.int IntKind.i64 x3, AC.int IntKind.i64 (-1), AC.bool (decide (intOf (nth AC.dead o31 1) > 0)), AC.bool false]).bind fun o46 =>
        bif boolOf (nth AC.dead o46 0) then
         bif IntKind.u64.wrap (intOf (nth AC.dead o31 0) + 1) == 0 then
          some [AC.int IntKind.i64 0, AC.bool false]
         else
          (M_wide_signed [AC.int IntKind.u64 (IntKind.u64.wrap (intOf (nth AC.dead o31 0) + 1)), AC.bool false]).bind fun o47 =>
          some [AC.int IntKind.i64 (intOf (nth AC.dead o47 0)), AC.bool (boolOf (nth AC.dead o47 1))]
        else
         (M_wide_signed [AC.int IntKind.u64 (intOf (nth AC.dead o31 0)), AC.bool false]).bind fun o48 =>
         some [AC.int IntKind.i64 (intOf (nth AC.dead o48 0)), AC.bool (boolOf (nth AC.dead o48 1))]
       else
        (M_wide_grows [AC.int IntKind.i64 x3, AC.int IntKind.i64 0, AC.bool (decide (intOf (nth AC.dead o31 1) > 0)), AC.bool false]).bind fun o49 =>
        bif boolOf (nth AC.dead o49 0) then
         bif IntKind.u64.wrap (intOf (nth AC.dead o31 0) + 1) == 0 then
          some [AC.int IntKind.i64 0, AC.bool false]
         else
          (M_wide_signed [AC.int IntKind.u64 (IntKind.u64.wrap (intOf (nth AC.dead o31 0) + 1)), AC.bool false]).bind fun o50 =>
          some [AC.int IntKind.i64 (intOf (nth AC.dead o50 0)), AC.bool (boolOf (nth AC.dead o50 1))]
        else
         (M_wide_signed [AC.int IntKind.u64 (intOf (nth AC.dead o31 0)), AC.bool false]).bind fun o51 =>
         some [AC.int IntKind.i64 (intOf (nth AC.dead o51 0)), AC.bool (boolOf (nth AC.dead o51 1))] := by kernel_rfl
noncomputable def m_wide_MulDiv := mf_wide_MulDiv m_wide_signed m_wide_grows m_wide_sign m_bits_Div64 m_wide_product m_wide_size m_wide_known 
theorem sp_wide_MulDiv : SpecOK Try.prog (C_wide_MulDiv_0 m_wide_signed m_wide_grows m_wide_sign m_bits_Div64 m_wide_product m_wide_size m_wide_known) := specOK_of rfl ⟨r_wide_signed, r_wide_grows, r_wide_sign, r_bits_Div64, r_wide_product, r_wide_size, r_wide_known, trivial⟩
theorem r_wide_MulDiv : RowOK Try.prog (98, spOf sig_wide_MulDiv osig_wide_MulDiv m_wide_MulDiv) := row_of (C := (C_wide_MulDiv_0 m_wide_signed m_wide_grows m_wide_sign m_bits_Div64 m_wide_product m_wide_size m_wide_known)) (L := 64) (sig := sig_wide_MulDiv) (osig := osig_wide_MulDiv) (by kernel_rfl) (FnOK.bare rfl rfl rfl) sp_wide_MulDiv eqOk mixOk (by kernel_rfl) (by kernel_rfl)
def sig_path_Rate : Sk := { tmps := [TS.v true [CS.int .i64, CS.int .i64, CS.int .i64, CS.int .i64, CS.int .i64, CS.int .i64, CS.int .i64, CS.int .i64, CS.int .i64, CS.int .i64, CS.int .i64, CS.int .i64, CS.int .i64, CS.bool, CS.int .i64, CS.bool, CS.int .i64, CS.int .i64, CS.int .i64, CS.int .i64, CS.int .i64, CS.bool], TS.v false [CS.int .i64]], boxes := [], rows := [] }
def osig_path_Rate : Sk := { tmps := [TS.v false [CS.int .i64]], boxes := [], rows := [] }
noncomputable def C_path_Rate_0 (M_wide_MulDiv : List AC → Option (List AC)) : Cfg := { spec := lookS [(98, spOf sig_wide_MulDiv osig_wide_MulDiv M_wide_MulDiv)], eqOk := eqAll, ownOff := ownOff }
noncomputable def mf_path_Rate (M_wide_MulDiv : List AC → Option (List AC))  : List AC → Option (List AC) := modelF Try.prog (C_path_Rate_0 M_wide_MulDiv) 64 50 sig_path_Rate osig_path_Rate
theorem mf_path_Rate_eq (M_wide_MulDiv : List AC → Option (List AC))  (x0 : Int) (x1 : Int) (x2 : Int) (x3 : Int) (x4 : Int) (x5 : Int) (x6 : Int) (x7 : Int) (x8 : Int) (x9 : Int) (x10 : Int) (x11 : Int) (x12 : Int) (x13 : Bool) (x14 : Int) (x15 : Bool) (x16 : Int) (x17 : Int) (x18 : Int) (x19 : Int) (x20 : Int) (x21 : Bool) (x22 : Int) : mf_path_Rate M_wide_MulDiv  [AC.int .i64 x0, AC.int .i64 x1, AC.int .i64 x2, AC.int .i64 x3, AC.int .i64 x4, AC.int .i64 x5, AC.int .i64 x6, AC.int .i64 x7, AC.int .i64 x8, AC.int .i64 x9, AC.int .i64 x10, AC.int .i64 x11, AC.int .i64 x12, AC.bool x13, AC.int .i64 x14, AC.bool x15, AC.int .i64 x16, AC.int .i64 x17, AC.int .i64 x18, AC.int .i64 x19, AC.int .i64 x20, AC.bool x21, AC.int .i64 x22] =
  bif x0 == 1 then
   some [AC.int IntKind.i64 0]
  else
   bif x15 then
    (M_wide_MulDiv [AC.int IntKind.i64 (mn (IntKind.i64.wrap (x14 * mx x22 1)) 60000000), AC.int IntKind.i64 4096, AC.int IntKind.i64 60000, AC.int IntKind.i64 2]).bind fun o2 =>
    some [AC.int IntKind.i64 (mx (intOf (nth AC.dead o2 0)) 1)]
   else
    (M_wide_MulDiv [AC.int IntKind.i64 (mn x14 60000000), AC.int IntKind.i64 4096, AC.int IntKind.i64 60000, AC.int IntKind.i64 2]).bind fun o3 =>
    some [AC.int IntKind.i64 (mx (intOf (nth AC.dead o3 0)) 1)] := by kernel_rfl
noncomputable def m_path_Rate := mf_path_Rate m_wide_MulDiv 
theorem sp_path_Rate : SpecOK Try.prog (C_path_Rate_0 m_wide_MulDiv) := specOK_of rfl ⟨r_wide_MulDiv, trivial⟩
theorem r_path_Rate : RowOK Try.prog (50, spOf sig_path_Rate osig_path_Rate m_path_Rate) := row_of (C := (C_path_Rate_0 m_wide_MulDiv)) (L := 64) (sig := sig_path_Rate) (osig := osig_path_Rate) (by kernel_rfl) (FnOK.bare rfl rfl rfl) sp_path_Rate eqOk mixOk (by kernel_rfl) (by kernel_rfl)
def sig_wide_compare : Sk := { tmps := [TS.v true [CS.int .u64, CS.int .u64], TS.v true [CS.int .u64, CS.int .u64]], boxes := [], rows := [] }
def osig_wide_compare : Sk := { tmps := [TS.v false [CS.int .i64]], boxes := [], rows := [] }
noncomputable def C_wide_compare_0  : Cfg := { spec := lookS [], eqOk := eqAll, ownOff := ownOff }
noncomputable def mf_wide_compare   : List AC → Option (List AC) := modelF Try.prog C_wide_compare_0 64 105 sig_wide_compare osig_wide_compare
theorem mf_wide_compare_eq   (x0 : Int) (x1 : Int) (x2 : Int) (x3 : Int) : mf_wide_compare   [AC.int .u64 x0, AC.int .u64 x1, AC.int .u64 x2, AC.int .u64 x3] =
  bif decide (x0 < x2) then
   some [AC.int IntKind.i64 (-1)]
  else
   bif x0 == x2 then
    bif decide (x1 < x3) then
     some [AC.int IntKind.i64 (-1)]
    else
     bif x0 == x2 && (x1 == x3 && true) then
      some [AC.int IntKind.i64 0]
     else
      some [AC.int IntKind.i64 1]
   else
    bif x0 == x2 && (x1 == x3 && true) then
     some [AC.int IntKind.i64 0]
    else
     some [AC.int IntKind.i64 1] := by kernel_rfl
noncomputable def m_wide_compare := mf_wide_compare  
theorem sp_wide_compare : SpecOK Try.prog (C_wide_compare_0 ) := specOK_of rfl trivial
theorem r_wide_compare : RowOK Try.prog (105, spOf sig_wide_compare osig_wide_compare m_wide_compare) := row_of (C := C_wide_compare_0) (L := 64) (sig := sig_wide_compare) (osig := osig_wide_compare) (by kernel_rfl) (FnOK.bare rfl rfl rfl) sp_wide_compare eqOk mixOk (by kernel_rfl) (by kernel_rfl)
def sig_wide_Cmp : Sk := { tmps := [TS.v false [CS.int .i64], TS.v false [CS.int .i64], TS.v false [CS.int .i64], TS.v false [CS.int .i64]], boxes := [], rows := [] }
def osig_wide_Cmp : Sk := { tmps := [TS.v false [CS.int .i64]], boxes := [], rows := [] }
noncomputable def C_wide_Cmp_0 (M_wide_compare : List AC → Option (List AC)) (M_wide_product : List AC → Option (List AC)) (M_wide_size : List AC → Option (List AC)) (M_wide_sign : List AC → Option (List AC)) : Cfg := { spec := lookS [(105, spOf sig_wide_compare osig_wide_compare M_wide_compare), (106, spOf sig_wide_product osig_wide_product M_wide_product), (107, spOf sig_wide_size osig_wide_size M_wide_size), (104, spOf sig_wide_sign osig_wide_sign M_wide_sign)], eqOk := eqAll, ownOff := ownOff }
noncomputable def mf_wide_Cmp (M_wide_compare : List AC → Option (List AC)) (M_wide_product : List AC → Option (List AC)) (M_wide_size : List AC → Option (List AC)) (M_wide_sign : List AC → Option (List AC))  : List AC → Option (List AC) := modelF Try.prog (C_wide_Cmp_0 M_wide_compare M_wide_product M_wide_size M_wide_sign) 64 57 sig_wide_Cmp osig_wide_Cmp
theorem mf_wide_Cmp_eq (M_wide_compare : List AC → Option (List AC)) (M_wide_product : List AC → Option (List AC)) (M_wide_size : List AC → Option (List AC)) (M_wide_sign : List AC → Option (List AC))  (x0 : Int) (x1 : Int) (x2 : Int) (x3 : Int) : mf_wide_Cmp M_wide_compare M_wide_product M_wide_size M_wide_sign  [AC.int .i64 x0, AC.int .i64 x1, AC.int .i64 x2, AC.int .i64 x3] =
  (M_wide_sign [AC.int IntKind.i64 x0, AC.int IntKind.i64 x1]).bind fun o9 =>
  (M_wide_sign [AC.int IntKind.i64 x2, AC.int IntKind.i64 x3]).bind fun o10 =>
  bif intOf (nth AC.dead o9 0) != intOf (nth AC.dead o10 0) then
   bif decide (intOf (nth AC.dead o9 0) < intOf (nth AC.dead o10 0)) then
    some [AC.int IntKind.i64 (-1)]
   else
    some [AC.int IntKind.i64 1]
  else
   (M_wide_size [AC.int IntKind.i64 x0]).bind fun o11 =>
   (M_wide_size [AC.int IntKind.i64 x1]).bind fun o12 =>
   (M_wide_product [AC.int IntKind.u64 (intOf (nth AC.dead o11 0)), AC.int IntKind.u64 (intOf (nth AC.dead o12 0))]).bind fun o13 =>
   (M_wide_size [AC.int IntKind.i64 x2]).bind fun o14 =>
   (M_wide_size [AC.int IntKind.i64 x3]).bind fun o15 =>
   (M_wide_product [AC.int IntKind.u64 (intOf (nth AC.dead o14 0)), AC.int IntKind.u64 (intOf (nth AC.dead o15 0))]).bind fun o16 =>
   (M_wide_compare [AC.int IntKind.u64 (intOf (nth AC.dead o13 0)), AC.int IntKind.u64 (intOf (nth AC.dead o13 1)), AC.int IntKind.u64 (intOf (nth AC.dead o16 0)), AC.int IntKind.u64 (intOf (nth AC.dead o16 1))]).bind fun o17 =>
   some [AC.int IntKind.i64 (IntKind.i64.wrap (intOf (nth AC.dead o9 0) * intOf (nth AC.dead o17 0)))] := by kernel_rfl
noncomputable def m_wide_Cmp := mf_wide_Cmp m_wide_compare m_wide_product m_wide_size m_wide_sign 
theorem sp_wide_Cmp : SpecOK Try.prog (C_wide_Cmp_0 m_wide_compare m_wide_product m_wide_size m_wide_sign) := specOK_of rfl ⟨r_wide_compare, r_wide_product, r_wide_size, r_wide_sign, trivial⟩
theorem r_wide_Cmp : RowOK Try.prog (57, spOf sig_wide_Cmp osig_wide_Cmp m_wide_Cmp) := row_of (C := (C_wide_Cmp_0 m_wide_compare m_wide_product m_wide_size m_wide_sign)) (L := 64) (sig := sig_wide_Cmp) (osig := osig_wide_Cmp) (by kernel_rfl) (FnOK.bare rfl rfl rfl) sp_wide_Cmp eqOk mixOk (by kernel_rfl) (by kernel_rfl)
def sig_wide_floorRoot : Sk := { tmps := [TS.v true [CS.int .u64, CS.int .u64]], boxes := [], rows := [] }
def osig_wide_floorRoot : Sk := { tmps := [TS.v false [CS.int .u64]], boxes := [], rows := [] }
noncomputable def C_wide_floorRoot_0 (M_wide_compare : List AC → Option (List AC)) (M_wide_product : List AC → Option (List AC)) : Cfg := { spec := lookS [(105, spOf sig_wide_compare osig_wide_compare M_wide_compare), (106, spOf sig_wide_product osig_wide_product M_wide_product)], eqOk := eqAll, ownOff := ownOff }
def sk_wide_floorRoot_3 : Sk := { tmps := [TS.dead, TS.v false [CS.ptr 1 0], TS.dead, TS.v false [CS.int .u64], TS.v false [CS.int .u64]] ++ dd 16, boxes := [(1, 134, [CS.int .u64, CS.int .u64])], rows := [] }
def ex_wide_floorRoot_3 : List (Ex × Sk) := [(Ex.exit 0, { tmps := [TS.dead, TS.dead, TS.dead, TS.v false [CS.int .u64]] ++ dd 17, boxes := [], rows := [] })]
noncomputable def st_wide_floorRoot_3 (M_wide_compare : List AC → Option (List AC)) (M_wide_product : List AC → Option (List AC))  : List AC → Option (Nat × List AC) := stepL Try.prog (C_wide_floorRoot_0 M_wide_compare M_wide_product) 64 3 (bodyOf Try.prog 172 3) sk_wide_floorRoot_3 ex_wide_floorRoot_3
noncomputable def C_wide_floorRoot_1 (M_wide_compare : List AC → Option (List AC)) (M_wide_product : List AC → Option (List AC))  (N3 : List AC → Option (Nat × List AC)) : Cfg := (C_wide_floorRoot_0 M_wide_compare M_wide_product).loop 3 sk_wide_floorRoot_3 ex_wide_floorRoot_3 N3
noncomputable def mf_wide_floorRoot (M_wide_compare : List AC → Option (List AC)) (M_wide_product : List AC → Option (List AC))  (N3 : List AC → Option (Nat × List AC)) : List AC → Option (List AC) := modelF Try.prog (C_wide_floorRoot_1 M_wide_compare M_wide_product N3) 64 172 sig_wide_floorRoot osig_wide_floorRoot
theorem st_wide_floorRoot_3_eq (M_wide_compare : List AC → Option (List AC)) (M_wide_product : List AC → Option (List AC))  (v0 : Int) (v1 : Int) (v2 : Int) (v3 : Int) : st_wide_floorRoot_3 M_wide_compare M_wide_product  [AC.int .u64 v0, AC.int .u64 v1, AC.int .u64 v2, AC.int .u64 v3] =
  bif decide (v1 > 0) then
   (M_wide_product [AC.int IntKind.u64 (IntKind.u64.wrap (↑(BitVec.ofInt IntKind.u64.bits v0 ||| BitVec.ofInt IntKind.u64.bits v1).toNat : Int)), AC.int IntKind.u64 (IntKind.u64.wrap (↑(BitVec.ofInt IntKind.u64.bits v0 ||| BitVec.ofInt IntKind.u64.bits v1).toNat : Int))]).bind fun o3 =>
   (M_wide_compare [AC.int IntKind.u64 (intOf (nth AC.dead o3 0)), AC.int IntKind.u64 (intOf (nth AC.dead o3 1)), AC.int IntKind.u64 v2, AC.int IntKind.u64 v3]).bind fun o4 =>
   bif decide (intOf (nth AC.dead o4 0) ≤ 0) then
    some (0, [AC.int IntKind.u64 (IntKind.u64.wrap (↑(BitVec.ofInt IntKind.u64.bits v0 ||| BitVec.ofInt IntKind.u64.bits v1).toNat : Int)), AC.int IntKind.u64 (v1.fdiv (2 ^ min (Int.toNat 1) IntKind.u64.bits)), AC.int IntKind.u64 v2, AC.int IntKind.u64 v3])
   else
    some (0, [AC.int IntKind.u64 v0, AC.int IntKind.u64 (v1.fdiv (2 ^ min (Int.toNat 1) IntKind.u64.bits)), AC.int IntKind.u64 v2, AC.int IntKind.u64 v3])
  else
   some (1, [AC.int IntKind.u64 v0]) := by kernel_rfl
theorem mf_wide_floorRoot_eq (M_wide_compare : List AC → Option (List AC)) (M_wide_product : List AC → Option (List AC))  (N3 : List AC → Option (Nat × List AC)) (x0 : Int) (x1 : Int) : mf_wide_floorRoot M_wide_compare M_wide_product  N3 [AC.int .u64 x0, AC.int .u64 x1] =
  (N3 [AC.int IntKind.u64 0, AC.int IntKind.u64 9223372036854775808, AC.int IntKind.u64 x0, AC.int IntKind.u64 x1]).bind fun o5 =>
  bif o5.fst.beq 1 then
   some [AC.int IntKind.u64 (intOf (nth AC.dead o5.snd 0))]
  else
   none := by kernel_rfl
noncomputable def l_wide_floorRoot_3 := loopC (st_wide_floorRoot_3 m_wide_compare m_wide_product )
noncomputable def m_wide_floorRoot := mf_wide_floorRoot m_wide_compare m_wide_product  l_wide_floorRoot_3
theorem sp_wide_floorRoot : SpecOK Try.prog (C_wide_floorRoot_0 m_wide_compare m_wide_product) := specOK_of rfl ⟨r_wide_compare, r_wide_product, trivial⟩
theorem r_wide_floorRoot : RowOK Try.prog (172, spOf sig_wide_floorRoot osig_wide_floorRoot m_wide_floorRoot) := row_of (C := (C_wide_floorRoot_1 m_wide_compare m_wide_product l_wide_floorRoot_3)) (L := 64) (sig := sig_wide_floorRoot) (osig := osig_wide_floorRoot) (by kernel_rfl) ((FnOK.bare rfl rfl rfl).loop sp_wide_floorRoot eqOk mixOk (by kernel_rfl) (by kernel_rfl)) sp_wide_floorRoot eqOk mixOk (by kernel_rfl) (by kernel_rfl)
def sig_wide_root : Sk := { tmps := [TS.v true [CS.int .u64, CS.int .u64], TS.v false [CS.int .i64]], boxes := [], rows := [] }
def osig_wide_root : Sk := { tmps := [TS.tup [(false, [CS.int .i64]), (false, [CS.bool])]], boxes := [], rows := [] }
noncomputable def C_wide_root_0 (M_wide_signed : List AC → Option (List AC)) (M_bits_Sub64 : List AC → Option (List AC)) (M_bits_Mul64 : List AC → Option (List AC)) (M_wide_floorRoot : List AC → Option (List AC)) : Cfg := { spec := lookS [(146, spOf sig_wide_signed osig_wide_signed M_wide_signed), (173, spOf sig_bits_Sub64 osig_bits_Sub64 M_bits_Sub64), (147, spOf sig_bits_Mul64 osig_bits_Mul64 M_bits_Mul64), (172, spOf sig_wide_floorRoot osig_wide_floorRoot M_wide_floorRoot)], eqOk := eqAll, ownOff := ownOff }
noncomputable def mf_wide_root (M_wide_signed : List AC → Option (List AC)) (M_bits_Sub64 : List AC → Option (List AC)) (M_bits_Mul64 : List AC → Option (List AC)) (M_wide_floorRoot : List AC → Option (List AC))  : List AC → Option (List AC) := modelF Try.prog (C_wide_root_0 M_wide_signed M_bits_Sub64 M_bits_Mul64 M_wide_floorRoot) 64 156 sig_wide_root osig_wide_root
theorem mf_wide_root_eq (M_wide_signed : List AC → Option (List AC)) (M_bits_Sub64 : List AC → Option (List AC)) (M_bits_Mul64 : List AC → Option (List AC)) (M_wide_floorRoot : List AC → Option (List AC))  (x0 : Int) (x1 : Int) (x2 : Int) : mf_wide_root M_wide_signed M_bits_Sub64 M_bits_Mul64 M_wide_floorRoot  [AC.int .u64 x0, AC.int .u64 x1, AC.int .i64 x2] =
  (M_wide_floorRoot [AC.int IntKind.u64 x0, AC.int IntKind.u64 x1]).bind fun o14 =>
  (M_bits_Mul64 [AC.int IntKind.u64 (intOf (nth AC.dead o14 0)), AC.int IntKind.u64 (intOf (nth AC.dead o14 0))]).bind fun o15 =>
  (M_bits_Sub64 [AC.int IntKind.u64 x1, AC.int IntKind.u64 (intOf (nth AC.dead o15 1)), AC.int IntKind.u64 0]).bind fun o16 =>
  (M_bits_Sub64 [AC.int IntKind.u64 x0, AC.int IntKind.u64 (intOf (nth AC.dead o15 0)), AC.int IntKind.u64 (intOf (nth AC.dead o16 1))]).bind fun o17 =>
  bif x2 == 1 then
   bif decide (intOf (nth AC.dead o17 0) > 0) then
    (M_wide_signed [AC.int IntKind.u64 (IntKind.u64.wrap (intOf (nth AC.dead o14 0) + 1)), AC.bool false]).bind fun o18 =>
    some [AC.int IntKind.i64 (intOf (nth AC.dead o18 0)), AC.bool (boolOf (nth AC.dead o18 1))]
   else
    bif decide (intOf (nth AC.dead o16 0) > 0) then
     (M_wide_signed [AC.int IntKind.u64 (IntKind.u64.wrap (intOf (nth AC.dead o14 0) + 1)), AC.bool false]).bind fun o19 =>
     some [AC.int IntKind.i64 (intOf (nth AC.dead o19 0)), AC.bool (boolOf (nth AC.dead o19 1))]
    else
     bif x2 == 2 then
      bif decide (intOf (nth AC.dead o17 0) > 0) then
       (M_wide_signed [AC.int IntKind.u64 (IntKind.u64.wrap (intOf (nth AC.dead o14 0) + 1)), AC.bool false]).bind fun o20 =>
       some [AC.int IntKind.i64 (intOf (nth AC.dead o20 0)), AC.bool (boolOf (nth AC.dead o20 1))]
      else
       bif decide (intOf (nth AC.dead o16 0) > intOf (nth AC.dead o14 0)) then
        (M_wide_signed [AC.int IntKind.u64 (IntKind.u64.wrap (intOf (nth AC.dead o14 0) + 1)), AC.bool false]).bind fun o21 =>
        some [AC.int IntKind.i64 (intOf (nth AC.dead o21 0)), AC.bool (boolOf (nth AC.dead o21 1))]
       else
        (M_wide_signed [AC.int IntKind.u64 (intOf (nth AC.dead o14 0)), AC.bool false]).bind fun o22 =>
        some [AC.int IntKind.i64 (intOf (nth AC.dead o22 0)), AC.bool (boolOf (nth AC.dead o22 1))]
     else
      (M_wide_signed [AC.int IntKind.u64 (intOf (nth AC.dead o14 0)), AC.bool false]).bind fun o23 =>
      some [AC.int IntKind.i64 (intOf (nth AC.dead o23 0)), AC.bool (boolOf (nth AC.dead o23 1))]
  else
   bif x2 == 2 then
    bif decide (intOf (nth AC.dead o17 0) > 0) then
     (M_wide_signed [AC.int IntKind.u64 (IntKind.u64.wrap (intOf (nth AC.dead o14 0) + 1)), AC.bool false]).bind fun o24 =>
     some [AC.int IntKind.i64 (intOf (nth AC.dead o24 0)), AC.bool (boolOf (nth AC.dead o24 1))]
    else
     bif decide (intOf (nth AC.dead o16 0) > intOf (nth AC.dead o14 0)) then
      (M_wide_signed [AC.int IntKind.u64 (IntKind.u64.wrap (intOf (nth AC.dead o14 0) + 1)), AC.bool false]).bind fun o25 =>
      some [AC.int IntKind.i64 (intOf (nth AC.dead o25 0)), AC.bool (boolOf (nth AC.dead o25 1))]
     else
      (M_wide_signed [AC.int IntKind.u64 (intOf (nth AC.dead o14 0)), AC.bool false]).bind fun o26 =>
      some [AC.int IntKind.i64 (intOf (nth AC.dead o26 0)), AC.bool (boolOf (nth AC.dead o26 1))]
   else
    (M_wide_signed [AC.int IntKind.u64 (intOf (nth AC.dead o14 0)), AC.bool false]).bind fun o27 =>
    some [AC.int IntKind.i64 (intOf (nth AC.dead o27 0)), AC.bool (boolOf (nth AC.dead o27 1))] := by kernel_rfl
noncomputable def m_wide_root := mf_wide_root m_wide_signed m_bits_Sub64 m_bits_Mul64 m_wide_floorRoot 
theorem sp_wide_root : SpecOK Try.prog (C_wide_root_0 m_wide_signed m_bits_Sub64 m_bits_Mul64 m_wide_floorRoot) := specOK_of rfl ⟨r_wide_signed, r_bits_Sub64, r_bits_Mul64, r_wide_floorRoot, trivial⟩
theorem r_wide_root : RowOK Try.prog (156, spOf sig_wide_root osig_wide_root m_wide_root) := row_of (C := (C_wide_root_0 m_wide_signed m_bits_Sub64 m_bits_Mul64 m_wide_floorRoot)) (L := 64) (sig := sig_wide_root) (osig := osig_wide_root) (by kernel_rfl) (FnOK.bare rfl rfl rfl) sp_wide_root eqOk mixOk (by kernel_rfl) (by kernel_rfl)
def sig_wide_Sqrt : Sk := { tmps := [TS.v false [CS.int .i64], TS.v false [CS.int .i64]], boxes := [], rows := [] }
def osig_wide_Sqrt : Sk := { tmps := [TS.tup [(false, [CS.int .i64]), (false, [CS.bool])]], boxes := [], rows := [] }
noncomputable def C_wide_Sqrt_0 (M_wide_root : List AC → Option (List AC)) (M_wide_known : List AC → Option (List AC)) : Cfg := { spec := lookS [(156, spOf sig_wide_root osig_wide_root M_wide_root), (143, spOf sig_wide_known osig_wide_known M_wide_known)], eqOk := eqAll, ownOff := ownOff }
noncomputable def mf_wide_Sqrt (M_wide_root : List AC → Option (List AC)) (M_wide_known : List AC → Option (List AC))  : List AC → Option (List AC) := modelF Try.prog (C_wide_Sqrt_0 M_wide_root M_wide_known) 64 134 sig_wide_Sqrt osig_wide_Sqrt
theorem mf_wide_Sqrt_eq (M_wide_root : List AC → Option (List AC)) (M_wide_known : List AC → Option (List AC))  (x0 : Int) (x1 : Int) : mf_wide_Sqrt M_wide_root M_wide_known  [AC.int .i64 x0, AC.int .i64 x1] =
  bif decide (x0 < 0) then
   some [AC.int IntKind.i64 0, AC.bool false]
  else
   (M_wide_known [AC.int IntKind.i64 x1]).bind fun o2 =>
   bif !boolOf (nth AC.dead o2 0) then
    some [AC.int IntKind.i64 0, AC.bool false]
   else
    (M_wide_root [AC.int IntKind.u64 0, AC.int IntKind.u64 (IntKind.u64.wrap x0), AC.int IntKind.i64 x1]).bind fun o3 =>
    some [AC.int IntKind.i64 (intOf (nth AC.dead o3 0)), AC.bool (boolOf (nth AC.dead o3 1))] := by kernel_rfl
noncomputable def m_wide_Sqrt := mf_wide_Sqrt m_wide_root m_wide_known 
theorem sp_wide_Sqrt : SpecOK Try.prog (C_wide_Sqrt_0 m_wide_root m_wide_known) := specOK_of rfl ⟨r_wide_root, r_wide_known, trivial⟩
theorem r_wide_Sqrt : RowOK Try.prog (134, spOf sig_wide_Sqrt osig_wide_Sqrt m_wide_Sqrt) := row_of (C := (C_wide_Sqrt_0 m_wide_root m_wide_known)) (L := 64) (sig := sig_wide_Sqrt) (osig := osig_wide_Sqrt) (by kernel_rfl) (FnOK.bare rfl rfl rfl) sp_wide_Sqrt eqOk mixOk (by kernel_rfl) (by kernel_rfl)
def sig_cncref01_sign : Sk := { tmps := [TS.v false [CS.int .i64], TS.v false [CS.int .i64]], boxes := [], rows := [] }
def osig_cncref01_sign : Sk := { tmps := [TS.v false [CS.int .i64]], boxes := [], rows := [] }
noncomputable def C_cncref01_sign_0  : Cfg := { spec := lookS [], eqOk := eqAll, ownOff := ownOff }
noncomputable def mf_cncref01_sign   : List AC → Option (List AC) := modelF Try.prog C_cncref01_sign_0 64 148 sig_cncref01_sign osig_cncref01_sign
theorem mf_cncref01_sign_eq   (x0 : Int) (x1 : Int) : mf_cncref01_sign   [AC.int .i64 x0, AC.int .i64 x1] =
  bif x0 == 0 then
   some [AC.int IntKind.i64 0]
  else
   bif x1 == 0 then
    some [AC.int IntKind.i64 0]
   else
    bif decide (x0 < 0) == decide (x1 < 0) then
     some [AC.int IntKind.i64 1]
    else
     some [AC.int IntKind.i64 (-1)] := by kernel_rfl
noncomputable def m_cncref01_sign := mf_cncref01_sign  
theorem sp_cncref01_sign : SpecOK Try.prog (C_cncref01_sign_0 ) := specOK_of rfl trivial
theorem r_cncref01_sign : RowOK Try.prog (148, spOf sig_cncref01_sign osig_cncref01_sign m_cncref01_sign) := row_of (C := C_cncref01_sign_0) (L := 64) (sig := sig_cncref01_sign) (osig := osig_cncref01_sign) (by kernel_rfl) (FnOK.bare rfl rfl rfl) sp_cncref01_sign eqOk mixOk (by kernel_rfl) (by kernel_rfl)
def sig_cncref01_mag : Sk := { tmps := [TS.v false [CS.int .i64]], boxes := [], rows := [] }
def osig_cncref01_mag : Sk := { tmps := [TS.v false [CS.int .u64]], boxes := [], rows := [] }
noncomputable def C_cncref01_mag_0  : Cfg := { spec := lookS [], eqOk := eqAll, ownOff := ownOff }
noncomputable def mf_cncref01_mag   : List AC → Option (List AC) := modelF Try.prog C_cncref01_mag_0 64 167 sig_cncref01_mag osig_cncref01_mag
theorem mf_cncref01_mag_eq   (x0 : Int) : mf_cncref01_mag   [AC.int .i64 x0] =
  bif decide (x0 < 0) then
   some [AC.int IntKind.u64 (IntKind.u64.wrap (IntKind.u64.wrap (IntKind.i64.wrap (0 - IntKind.i64.wrap (x0 + 1))) + 1))]
  else
   some [AC.int IntKind.u64 (IntKind.u64.wrap x0)] := by kernel_rfl
noncomputable def m_cncref01_mag := mf_cncref01_mag  
theorem sp_cncref01_mag : SpecOK Try.prog (C_cncref01_mag_0 ) := specOK_of rfl trivial
theorem r_cncref01_mag : RowOK Try.prog (167, spOf sig_cncref01_mag osig_cncref01_mag m_cncref01_mag) := row_of (C := C_cncref01_mag_0) (L := 64) (sig := sig_cncref01_mag) (osig := osig_cncref01_mag) (by kernel_rfl) (FnOK.bare rfl rfl rfl) sp_cncref01_mag eqOk mixOk (by kernel_rfl) (by kernel_rfl)
end Go.Bm
