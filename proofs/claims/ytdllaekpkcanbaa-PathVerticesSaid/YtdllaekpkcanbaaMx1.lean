/- functions of the program and of the references, as models -/
import Derived.Test.YtdllaekpkcanbaaSeShelf
import Derived.Test.YtdllaekpkcanbaaSeExt
import Derived.Test.YtdllaekpkcanbaaSePre
import Derived.Test.YtdllaekpkcanbaaBmTy
set_option linter.unusedSimpArgs false
set_option linter.unusedVariables false
set_option maxRecDepth 100000
noncomputable section
namespace Go.Bm
open Go.Proofs
def sig_path_Length : Sk := { tmps := [TS.v true [ci, ci, ci, CS.sl kSgm, CS.sl kPt]], boxes := [], rows := [] }
def osig_path_Length : Sk := { tmps := [tf [ci]], boxes := [], rows := [] }
def C_path_Length_0 : Cfg := { spec := lookS [], eqOk := eqAll, ownOff := ownOff }
def sk_path_Length_3 : Sk := { tmps := [td, td, td, tf [ci], td, td, td, tf [CS.sl kSgm], tf [ci], tf [ci]] ++ dd 9, boxes := [], rows := [] }
def ex_path_Length_3 : List (Ex × Sk) := [(Ex.exit 0, { tmps := [td, td, td, tf [ci]] ++ dd 15, boxes := [], rows := [] })]
def st_path_Length_3 : Lp := stepL Try.prog C_path_Length_0 64 3 (bodyOf Try.prog 46 3) sk_path_Length_3 ex_path_Length_3
def C_path_Length_1 (N3 : Lp) : Cfg := C_path_Length_0.loop 3 sk_path_Length_3 ex_path_Length_3 N3
def mf_path_Length (N3 : Lp) : Fn := modelF Try.prog (C_path_Length_1 N3) 64 46 sig_path_Length osig_path_Length
theorem st_path_Length_3_eq (v0 : Int) (v1 : Rw) (v2 v3 : Int) : st_path_Length_3 [I v0, .view kSgm v1, I v2, I v3] =
 bif decide (v3 < v2) then
 bif decide (0 <= v3) && decide (v3 < (v1.length : Int)) then
 some (0, [I (IntKind.i64.wrap (v0 + gA (nth [] v1 v3.toNat) 3)), .view kSgm v1, I v2, I (IntKind.i64.wrap (v3 + 1))])
 else
 none
 else
 some (1, [I v0]) := by kernel_rfl
theorem mf_path_Length_eq (N3 : Lp) (x0 x1 x2 : Int) (x3 x4 : Rw) : mf_path_Length N3 [I x0, I x1, I x2, .view kSgm x3, .view kPt x4] =
 (N3 [I 0, .view kSgm x3, I (x3.length : Int), I 0]).bind fun o1 =>
 bif o1.1.beq 1 then
 some [jA o1.2 0]
 else
 none := by kernel_rfl
def l_path_Length_3 := loopC (st_path_Length_3 )
def m_path_Length := mf_path_Length l_path_Length_3
theorem sp_path_Length : SpecOK Try.prog (C_path_Length_0 ) := specOK_of rfl trivial
theorem r_path_Length : RowOK Try.prog (46, spOf sig_path_Length osig_path_Length m_path_Length) := row_of (C := (C_path_Length_1 l_path_Length_3)) (L := 64) (by kernel_rfl) ((FnOK.bare rfl rfl rfl).loop sp_path_Length eqOk mixOk (by kernel_rfl) (by kernel_rfl)) sp_path_Length eqOk mixOk (by kernel_rfl) (by kernel_rfl)
def sig_cncref23_Fine : Sk := { tmps := [TS.v true [ci, ci, ci]], boxes := [], rows := [] }
def osig_cncref23_Fine : Sk := { tmps := [TS.v true [ci, ci, ci]], boxes := [], rows := [] }
def C_cncref23_Fine_0 : Cfg := { spec := lookS [], eqOk := eqAll, ownOff := ownOff }
def mf_cncref23_Fine : Fn := modelF Try.prog C_cncref23_Fine_0 64 25 sig_cncref23_Fine osig_cncref23_Fine
theorem mf_cncref23_Fine_eq (x0 x1 x2 : Int) : mf_cncref23_Fine [I x0, I x1, I x2] =
 some [I (IntKind.i64.wrap (x0 * 16)), I (IntKind.i64.wrap (x1 * 16)), I (IntKind.i64.wrap (x2 * 16))] := by kernel_rfl
def m_cncref23_Fine := mf_cncref23_Fine 
theorem sp_cncref23_Fine : SpecOK Try.prog (C_cncref23_Fine_0 ) := specOK_of rfl trivial
theorem r_cncref23_Fine : RowOK Try.prog (25, spOf sig_cncref23_Fine osig_cncref23_Fine m_cncref23_Fine) := row_of (C := C_cncref23_Fine_0) (L := 64) (by kernel_rfl) (FnOK.bare rfl rfl rfl) sp_cncref23_Fine eqOk mixOk (by kernel_rfl) (by kernel_rfl)
def sig_wide_signed : Sk := { tmps := [tf [CS.int .u64], tf [CS.bool]], boxes := [], rows := [] }
def osig_wide_signed : Sk := { tmps := [TS.tup [(false, [ci]), (false, [CS.bool])]], boxes := [], rows := [] }
def C_wide_signed_0 : Cfg := { spec := lookS [], eqOk := eqAll, ownOff := ownOff }
def mf_wide_signed : Fn := modelF Try.prog C_wide_signed_0 64 146 sig_wide_signed osig_wide_signed
theorem mf_wide_signed_eq (x0 : Int) (x1 : Bool) : mf_wide_signed [U x0, B x1] =
 bif x1 then
 bif decide (x0 <= 9223372036854775808) then
 some [I (IntKind.i64.wrap (IntKind.u64.wrap (0 - x0))), B true]
 else
 bif !x1 then
 bif decide (x0 < 9223372036854775808) then
 some [I (IntKind.i64.wrap x0), B true]
 else
 some [I 0, B false]
 else
 some [I 0, B false]
 else
 bif !x1 then
 bif decide (x0 < 9223372036854775808) then
 some [I (IntKind.i64.wrap x0), B true]
 else
 some [I 0, B false]
 else
 some [I 0, B false] := by kernel_rfl
def m_wide_signed := mf_wide_signed 
theorem sp_wide_signed : SpecOK Try.prog (C_wide_signed_0 ) := specOK_of rfl trivial
theorem r_wide_signed : RowOK Try.prog (146, spOf sig_wide_signed osig_wide_signed m_wide_signed) := row_of (C := C_wide_signed_0) (L := 64) (by kernel_rfl) (FnOK.bare rfl rfl rfl) sp_wide_signed eqOk mixOk (by kernel_rfl) (by kernel_rfl)
def sig_wide_grows : Sk := { tmps := [tf [ci], tf [ci], tf [CS.bool], tf [CS.bool]], boxes := [], rows := [] }
def osig_wide_grows : Sk := { tmps := [tf [CS.bool]], boxes := [], rows := [] }
def C_wide_grows_0 : Cfg := { spec := lookS [], eqOk := eqAll, ownOff := ownOff }
def mf_wide_grows : Fn := modelF Try.prog C_wide_grows_0 64 145 sig_wide_grows osig_wide_grows
theorem mf_wide_grows_eq (x0 x1 : Int) (x2 x3 : Bool) : mf_wide_grows [I x0, I x1, B x2, B x3] =
 bif x0 == 0 then
 bif x2 then
 some [B x3]
 else
 some [B false]
 else
 bif x0 == 1 then
 bif x2 then
 some [B !x3]
 else
 some [B false]
 else
 bif decide (x1 > 0) then
 some [B true]
 else
 bif x1 == 0 then
 some [B !x3]
 else
 some [B false] := by kernel_rfl
def m_wide_grows := mf_wide_grows 
theorem sp_wide_grows : SpecOK Try.prog (C_wide_grows_0 ) := specOK_of rfl trivial
theorem r_wide_grows : RowOK Try.prog (145, spOf sig_wide_grows osig_wide_grows m_wide_grows) := row_of (C := C_wide_grows_0) (L := 64) (by kernel_rfl) (FnOK.bare rfl rfl rfl) sp_wide_grows eqOk mixOk (by kernel_rfl) (by kernel_rfl)
def sig_wide_sign : Sk := { tmps := [tf [ci], tf [ci]], boxes := [], rows := [] }
def osig_wide_sign : Sk := { tmps := [tf [ci]], boxes := [], rows := [] }
def C_wide_sign_0 : Cfg := { spec := lookS [], eqOk := eqAll, ownOff := ownOff }
def mf_wide_sign : Fn := modelF Try.prog C_wide_sign_0 64 104 sig_wide_sign osig_wide_sign
theorem mf_wide_sign_eq (x0 x1 : Int) : mf_wide_sign [I x0, I x1] =
 bif x0 == 0 then
 some [I 0]
 else
 bif x1 == 0 then
 some [I 0]
 else
 bif decide (x0 < 0) == decide (x1 < 0) then
 some [I 1]
 else
 some [I (-1)] := by kernel_rfl
def m_wide_sign := mf_wide_sign 
theorem sp_wide_sign : SpecOK Try.prog (C_wide_sign_0 ) := specOK_of rfl trivial
theorem r_wide_sign : RowOK Try.prog (104, spOf sig_wide_sign osig_wide_sign m_wide_sign) := row_of (C := C_wide_sign_0) (L := 64) (by kernel_rfl) (FnOK.bare rfl rfl rfl) sp_wide_sign eqOk mixOk (by kernel_rfl) (by kernel_rfl)
def sig_bits_Div64 : Sk := { tmps := [tf [CS.int .u64], tf [CS.int .u64], tf [CS.int .u64]], boxes := [], rows := [] }
def osig_bits_Div64 : Sk := { tmps := [TS.tup [(false, [CS.int .u64]), (false, [CS.int .u64])]], boxes := [], rows := [] }
def C_bits_Div64_0 (M_bits_LeadingZeros64 : Fn) : Cfg := { spec := lookS [(164, spOf sig_bits_LeadingZeros64 osig_bits_LeadingZeros64 M_bits_LeadingZeros64)], eqOk := eqAll, ownOff := ownOff }
def sk_bits_Div64_17 : Sk := { tmps := [td, td, tf [CS.int .u64], td, td, td, td, td, tf [CS.int .u64], tf [CS.int .u64], tf [CS.int .u64], tf [CS.int .u64], td, tf [CS.int .u64], tf [CS.int .u64], tf [CS.int .u64], tf [CS.int .u64]] ++ dd 118, boxes := [], rows := [] }
def ex_bits_Div64_17 : List (Ex × Sk) := [(Ex.exit 0, { tmps := [td, td, tf [CS.int .u64], td, td, td, td, td, tf [CS.int .u64], tf [CS.int .u64], tf [CS.int .u64], tf [CS.int .u64], td, tf [CS.int .u64], tf [CS.int .u64], tf [CS.int .u64]] ++ dd 119, boxes := [], rows := [] })]
def st_bits_Div64_17 (M_bits_LeadingZeros64 : Fn) : Lp := stepL Try.prog (C_bits_Div64_0 M_bits_LeadingZeros64) 64 17 (bodyOf Try.prog 144 17) sk_bits_Div64_17 ex_bits_Div64_17
def C_bits_Div64_1 (M_bits_LeadingZeros64 : Fn) (N17 : Lp) : Cfg := (C_bits_Div64_0 M_bits_LeadingZeros64).loop 17 sk_bits_Div64_17 ex_bits_Div64_17 N17
def sk_bits_Div64_24 : Sk := { tmps := [td, td, tf [CS.int .u64], td, td, td, td, td, tf [CS.int .u64], tf [CS.int .u64], tf [CS.int .u64], td, td, td, tf [CS.int .u64], tf [CS.int .u64], tf [CS.int .u64], tf [CS.int .u64], tf [CS.int .u64]] ++ dd 116, boxes := [], rows := [] }
def ex_bits_Div64_24 : List (Ex × Sk) := [(Ex.exit 2, { tmps := [td, td, tf [CS.int .u64], td, td, td, td, td, tf [CS.int .u64], td, td, td, td, td, tf [CS.int .u64], tf [CS.int .u64], td, tf [CS.int .u64], tf [CS.int .u64]] ++ dd 116, boxes := [], rows := [] })]
def st_bits_Div64_24 (M_bits_LeadingZeros64 : Fn) (N17 : Lp) : Lp := stepL Try.prog (C_bits_Div64_1 M_bits_LeadingZeros64 N17) 64 24 (bodyOf Try.prog 144 24) sk_bits_Div64_24 ex_bits_Div64_24
def C_bits_Div64_2 (M_bits_LeadingZeros64 : Fn) (N17 N24 : Lp) : Cfg := (C_bits_Div64_1 M_bits_LeadingZeros64 N17).loop 24 sk_bits_Div64_24 ex_bits_Div64_24 N24
def mf_bits_Div64 (M_bits_LeadingZeros64 : Fn) (N17 N24 : Lp) : Fn := modelF Try.prog (C_bits_Div64_2 M_bits_LeadingZeros64 N17 N24) 64 144 sig_bits_Div64 osig_bits_Div64
theorem st_bits_Div64_17_eq (M_bits_LeadingZeros64 : Fn) (v0 v1 v2 v3 v4 v5 v6 v7 v8 : Int) : st_bits_Div64_17 M_bits_LeadingZeros64 [U v0, U v1, U v2, U v3, U v4, U v5, U v6, U v7, U v8] =
 bif decide (v7 >= 4294967296) then
 bif decide (IntKind.u64.wrap (v8 + v2) >= 4294967296) then
 some (1, [U v0, U v1, U v2, U v3, U v4, U v5, U v6, U (IntKind.u64.wrap (v7 - 1))])
 else
 some (0, [U v0, U v1, U v2, U v3, U v4, U v5, U v6, U (IntKind.u64.wrap (v7 - 1)), U (IntKind.u64.wrap (v8 + v2))])
 else
 bif decide (IntKind.u64.wrap (v7 * v3) > IntKind.u64.wrap (IntKind.u64.wrap (4294967296 * v8) + v5)) then
 bif decide (IntKind.u64.wrap (v8 + v2) >= 4294967296) then
 some (1, [U v0, U v1, U v2, U v3, U v4, U v5, U v6, U (IntKind.u64.wrap (v7 - 1))])
 else
 some (0, [U v0, U v1, U v2, U v3, U v4, U v5, U v6, U (IntKind.u64.wrap (v7 - 1)), U (IntKind.u64.wrap (v8 + v2))])
 else
 some (1, [U v0, U v1, U v2, U v3, U v4, U v5, U v6, U v7]) := by kernel_rfl
theorem st_bits_Div64_24_eq (M_bits_LeadingZeros64 : Fn) (N17 : Lp) (v0 v1 v2 v3 v4 v5 v6 v7 v8 : Int) : st_bits_Div64_24 M_bits_LeadingZeros64 N17 [U v0, U v1, U v2, U v3, U v4, U v5, U v6, U v7, U v8] =
 bif decide (v8 >= 4294967296) then
 bif decide (IntKind.u64.wrap (v6 + v2) >= 4294967296) then
 some (1, [U v0, U v1, U v4, U v5, U v7, U (IntKind.u64.wrap (v8 - 1))])
 else
 some (0, [U v0, U v1, U v2, U v3, U v4, U v5, U (IntKind.u64.wrap (v6 + v2)), U v7, U (IntKind.u64.wrap (v8 - 1))])
 else
 bif decide (IntKind.u64.wrap (v8 * v3) > IntKind.u64.wrap (IntKind.u64.wrap (4294967296 * v6) + v4)) then
 bif decide (IntKind.u64.wrap (v6 + v2) >= 4294967296) then
 some (1, [U v0, U v1, U v4, U v5, U v7, U (IntKind.u64.wrap (v8 - 1))])
 else
 some (0, [U v0, U v1, U v2, U v3, U v4, U v5, U (IntKind.u64.wrap (v6 + v2)), U v7, U (IntKind.u64.wrap (v8 - 1))])
 else
 some (1, [U v0, U v1, U v4, U v5, U v7, U v8]) := by kernel_rfl
theorem mf_bits_Div64_eq (M_bits_LeadingZeros64 : Fn) (N17 N24 : Lp) (x0 x1 x2 : Int) : mf_bits_Div64 M_bits_LeadingZeros64 N17 N24 [U x0, U x1, U x2] =
 bif x2 == 0 then
 none
 else
 bif decide (x2 <= x0) then
 none
 else
 bif x0 == 0 then
 bif decide (x2 = 0) then
 none
 else
 bif decide (x2 = 0) then
 none
 else
 some [U (IntKind.u64.wrap (x1.tdiv x2)), U (x1.tmod x2)]
 else
 (M_bits_LeadingZeros64 [U x2]).bind fun o6 =>
 bif decide (IntKind.u64.wrap (gA o6 0) < 0) then
 none
 else
 bif decide (IntKind.u64.wrap (gA o6 0) < 0) then
 none
 else
 bif decide (IntKind.u64.wrap (64 - IntKind.u64.wrap (gA o6 0)) < 0) then
 none
 else
 bif decide (IntKind.u64.wrap (gA o6 0) < 0) then
 none
 else
 bif decide ((IntKind.u64.wrap (x2 * 2 ^ min (IntKind.u64.wrap (gA o6 0)).toNat IntKind.u64.bits)).fdiv (2 ^ min (Int.toNat 32) IntKind.u64.bits) = 0) then
 none
 else
 (N17 [U (IntKind.u64.wrap (x2 * 2 ^ min (IntKind.u64.wrap (gA o6 0)).toNat IntKind.u64.bits)), U (IntKind.u64.wrap (gA o6 0)), U ((IntKind.u64.wrap (x2 * 2 ^ min (IntKind.u64.wrap (gA o6 0)).toNat IntKind.u64.bits)).fdiv (2 ^ min (Int.toNat 32) IntKind.u64.bits)), U (IntKind.u64.wrap (↑(BitVec.ofInt IntKind.u64.bits (IntKind.u64.wrap (x2 * 2 ^ min (IntKind.u64.wrap (gA o6 0)).toNat IntKind.u64.bits)) &&& BitVec.ofInt IntKind.u64.bits 4294967295).toNat : Int)), U (IntKind.u64.wrap (↑(BitVec.ofInt IntKind.u64.bits (IntKind.u64.wrap (x0 * 2 ^ min (IntKind.u64.wrap (gA o6 0)).toNat IntKind.u64.bits)) ||| BitVec.ofInt IntKind.u64.bits (x1.fdiv (2 ^ min (IntKind.u64.wrap (64 - IntKind.u64.wrap (gA o6 0))).toNat IntKind.u64.bits))).toNat : Int)), U ((IntKind.u64.wrap (x1 * 2 ^ min (IntKind.u64.wrap (gA o6 0)).toNat IntKind.u64.bits)).fdiv (2 ^ min (Int.toNat 32) IntKind.u64.bits)), U (IntKind.u64.wrap (↑(BitVec.ofInt IntKind.u64.bits (IntKind.u64.wrap (x1 * 2 ^ min (IntKind.u64.wrap (gA o6 0)).toNat IntKind.u64.bits)) &&& BitVec.ofInt IntKind.u64.bits 4294967295).toNat : Int)), U (IntKind.u64.wrap ((IntKind.u64.wrap (↑(BitVec.ofInt IntKind.u64.bits (IntKind.u64.wrap (x0 * 2 ^ min (IntKind.u64.wrap (gA o6 0)).toNat IntKind.u64.bits)) ||| BitVec.ofInt IntKind.u64.bits (x1.fdiv (2 ^ min (IntKind.u64.wrap (64 - IntKind.u64.wrap (gA o6 0))).toNat IntKind.u64.bits))).toNat : Int)).tdiv ((IntKind.u64.wrap (x2 * 2 ^ min (IntKind.u64.wrap (gA o6 0)).toNat IntKind.u64.bits)).fdiv (2 ^ min (Int.toNat 32) IntKind.u64.bits)))), U (IntKind.u64.wrap (IntKind.u64.wrap (↑(BitVec.ofInt IntKind.u64.bits (IntKind.u64.wrap (x0 * 2 ^ min (IntKind.u64.wrap (gA o6 0)).toNat IntKind.u64.bits)) ||| BitVec.ofInt IntKind.u64.bits (x1.fdiv (2 ^ min (IntKind.u64.wrap (64 - IntKind.u64.wrap (gA o6 0))).toNat IntKind.u64.bits))).toNat : Int) - IntKind.u64.wrap (IntKind.u64.wrap ((IntKind.u64.wrap (↑(BitVec.ofInt IntKind.u64.bits (IntKind.u64.wrap (x0 * 2 ^ min (IntKind.u64.wrap (gA o6 0)).toNat IntKind.u64.bits)) ||| BitVec.ofInt IntKind.u64.bits (x1.fdiv (2 ^ min (IntKind.u64.wrap (64 - IntKind.u64.wrap (gA o6 0))).toNat IntKind.u64.bits))).toNat : Int)).tdiv ((IntKind.u64.wrap (x2 * 2 ^ min (IntKind.u64.wrap (gA o6 0)).toNat IntKind.u64.bits)).fdiv (2 ^ min (Int.toNat 32) IntKind.u64.bits))) * (IntKind.u64.wrap (x2 * 2 ^ min (IntKind.u64.wrap (gA o6 0)).toNat IntKind.u64.bits)).fdiv (2 ^ min (Int.toNat 32) IntKind.u64.bits))))]).bind fun o7 =>
 bif o7.1.beq 1 then
 bif decide (gA o7.2 2 = 0) then
 none
 else
 (N24 [U (gA o7.2 0), U (gA o7.2 1), U (gA o7.2 2), U (gA o7.2 3), U (gA o7.2 6), U (gA o7.2 7), U (IntKind.u64.wrap (IntKind.u64.wrap (IntKind.u64.wrap (IntKind.u64.wrap (gA o7.2 4 * 4294967296) + gA o7.2 5) - IntKind.u64.wrap (gA o7.2 7 * gA o7.2 0)) - IntKind.u64.wrap (IntKind.u64.wrap ((IntKind.u64.wrap (IntKind.u64.wrap (IntKind.u64.wrap (gA o7.2 4 * 4294967296) + gA o7.2 5) - IntKind.u64.wrap (gA o7.2 7 * gA o7.2 0))).tdiv (gA o7.2 2)) * gA o7.2 2))), U (IntKind.u64.wrap (IntKind.u64.wrap (IntKind.u64.wrap (gA o7.2 4 * 4294967296) + gA o7.2 5) - IntKind.u64.wrap (gA o7.2 7 * gA o7.2 0))), U (IntKind.u64.wrap ((IntKind.u64.wrap (IntKind.u64.wrap (IntKind.u64.wrap (gA o7.2 4 * 4294967296) + gA o7.2 5) - IntKind.u64.wrap (gA o7.2 7 * gA o7.2 0))).tdiv (gA o7.2 2)))]).bind fun o8 =>
 bif o8.1.beq 1 then
 bif decide (gA o8.2 1 < 0) then
 none
 else
 some [U (IntKind.u64.wrap (IntKind.u64.wrap (gA o8.2 3 * 4294967296) + gA o8.2 5)), U ((IntKind.u64.wrap (IntKind.u64.wrap (IntKind.u64.wrap (gA o8.2 4 * 4294967296) + gA o8.2 2) - IntKind.u64.wrap (gA o8.2 5 * gA o8.2 0))).fdiv (2 ^ min (gA o8.2 1).toNat IntKind.u64.bits))]
 else
 none
 else
 none := by kernel_rfl
def l_bits_Div64_17 := loopC (st_bits_Div64_17 m_bits_LeadingZeros64 )
def l_bits_Div64_24 := loopC (st_bits_Div64_24 m_bits_LeadingZeros64 l_bits_Div64_17)
def m_bits_Div64 := mf_bits_Div64 m_bits_LeadingZeros64 l_bits_Div64_17 l_bits_Div64_24
theorem sp_bits_Div64 : SpecOK Try.prog (C_bits_Div64_0 m_bits_LeadingZeros64) := specOK_of rfl ⟨r_bits_LeadingZeros64, trivial⟩
theorem r_bits_Div64 : RowOK Try.prog (144, spOf sig_bits_Div64 osig_bits_Div64 m_bits_Div64) := row_of (C := (C_bits_Div64_2 m_bits_LeadingZeros64 l_bits_Div64_17 l_bits_Div64_24)) (L := 64) (by kernel_rfl) (((FnOK.bare rfl rfl rfl).loop sp_bits_Div64 eqOk mixOk (by kernel_rfl) (by kernel_rfl)).loop sp_bits_Div64 eqOk mixOk (by kernel_rfl) (by kernel_rfl)) sp_bits_Div64 eqOk mixOk (by kernel_rfl) (by kernel_rfl)
def sig_wide_product : Sk := { tmps := [tf [CS.int .u64], tf [CS.int .u64]], boxes := [], rows := [] }
def osig_wide_product : Sk := { tmps := [TS.v true [CS.int .u64, CS.int .u64]], boxes := [], rows := [] }
def C_wide_product_0 (M_bits_Mul64 : Fn) : Cfg := { spec := lookS [(147, spOf sig_bits_Mul64 osig_bits_Mul64 M_bits_Mul64)], eqOk := eqAll, ownOff := ownOff }
def mf_wide_product (M_bits_Mul64 : Fn) : Fn := modelF Try.prog (C_wide_product_0 M_bits_Mul64) 64 106 sig_wide_product osig_wide_product
theorem mf_wide_product_eq (M_bits_Mul64 : Fn) (x0 x1 : Int) : mf_wide_product M_bits_Mul64 [U x0, U x1] =
 (M_bits_Mul64 [U x0, U x1]).bind fun o1 =>
 some [U (gA o1 0), U (gA o1 1)] := by kernel_rfl
def m_wide_product := mf_wide_product m_bits_Mul64 
theorem sp_wide_product : SpecOK Try.prog (C_wide_product_0 m_bits_Mul64) := specOK_of rfl ⟨r_bits_Mul64, trivial⟩
theorem r_wide_product : RowOK Try.prog (106, spOf sig_wide_product osig_wide_product m_wide_product) := row_of (C := (C_wide_product_0 m_bits_Mul64)) (L := 64) (by kernel_rfl) (FnOK.bare rfl rfl rfl) sp_wide_product eqOk mixOk (by kernel_rfl) (by kernel_rfl)
def sig_wide_size : Sk := { tmps := [tf [ci]], boxes := [], rows := [] }
def osig_wide_size : Sk := { tmps := [tf [CS.int .u64]], boxes := [], rows := [] }
def C_wide_size_0 : Cfg := { spec := lookS [], eqOk := eqAll, ownOff := ownOff }
def mf_wide_size : Fn := modelF Try.prog C_wide_size_0 64 107 sig_wide_size osig_wide_size
theorem mf_wide_size_eq (x0 : Int) : mf_wide_size [I x0] =
 bif decide (x0 < 0) then
 some [U (IntKind.u64.wrap (IntKind.u64.wrap (IntKind.i64.wrap (0 - IntKind.i64.wrap (x0 + 1))) + 1))]
 else
 some [U (IntKind.u64.wrap x0)] := by kernel_rfl
def m_wide_size := mf_wide_size 
theorem sp_wide_size : SpecOK Try.prog (C_wide_size_0 ) := specOK_of rfl trivial
theorem r_wide_size : RowOK Try.prog (107, spOf sig_wide_size osig_wide_size m_wide_size) := row_of (C := C_wide_size_0) (L := 64) (by kernel_rfl) (FnOK.bare rfl rfl rfl) sp_wide_size eqOk mixOk (by kernel_rfl) (by kernel_rfl)
def sig_wide_known : Sk := { tmps := [tf [ci]], boxes := [], rows := [] }
def osig_wide_known : Sk := { tmps := [tf [CS.bool]], boxes := [], rows := [] }
def C_wide_known_0 : Cfg := { spec := lookS [], eqOk := eqAll, ownOff := ownOff }
def mf_wide_known : Fn := modelF Try.prog C_wide_known_0 64 143 sig_wide_known osig_wide_known
theorem mf_wide_known_eq (x0 : Int) : mf_wide_known [I x0] =
 bif x0 == 0 then
 some [B true]
 else
 bif x0 == 1 then
 some [B true]
 else
 some [B (x0 == 2)] := by kernel_rfl
def m_wide_known := mf_wide_known 
theorem sp_wide_known : SpecOK Try.prog (C_wide_known_0 ) := specOK_of rfl trivial
theorem r_wide_known : RowOK Try.prog (143, spOf sig_wide_known osig_wide_known m_wide_known) := row_of (C := C_wide_known_0) (L := 64) (by kernel_rfl) (FnOK.bare rfl rfl rfl) sp_wide_known eqOk mixOk (by kernel_rfl) (by kernel_rfl)
def sig_wide_MulDiv : Sk := { tmps := [tf [ci], tf [ci], tf [ci], tf [ci]], boxes := [], rows := [] }
def osig_wide_MulDiv : Sk := { tmps := [TS.tup [(false, [ci]), (false, [CS.bool])]], boxes := [], rows := [] }
def C_wide_MulDiv_0 (M_wide_signed M_wide_grows M_wide_sign M_bits_Div64 M_wide_product M_wide_size M_wide_known : Fn) : Cfg := { spec := lookS [(146, spOf sig_wide_signed osig_wide_signed M_wide_signed), (145, spOf sig_wide_grows osig_wide_grows M_wide_grows), (104, spOf sig_wide_sign osig_wide_sign M_wide_sign), (144, spOf sig_bits_Div64 osig_bits_Div64 M_bits_Div64), (106, spOf sig_wide_product osig_wide_product M_wide_product), (107, spOf sig_wide_size osig_wide_size M_wide_size), (143, spOf sig_wide_known osig_wide_known M_wide_known)], eqOk := eqAll, ownOff := ownOff }
def mf_wide_MulDiv (M_wide_signed M_wide_grows M_wide_sign M_bits_Div64 M_wide_product M_wide_size M_wide_known : Fn) : Fn := modelF Try.prog (C_wide_MulDiv_0 M_wide_signed M_wide_grows M_wide_sign M_bits_Div64 M_wide_product M_wide_size M_wide_known) 64 98 sig_wide_MulDiv osig_wide_MulDiv
abbrev g_wide_MulDiv_1 (M_wide_grows : Fn) (x3 : Int) (o31 : List AC) (M_wide_signed : Fn) (h1_0 h1_1 : AC) : Option (List AC) :=
 (M_wide_grows [I x3, h1_0, B (decide (gA o31 1 > 0)), h1_1]).bind fun o34 =>
 bif bA o34 0 then
 bif IntKind.u64.wrap (gA o31 0 + 1) == 0 then
 some [I 0, B false]
 else
 (M_wide_signed [U (IntKind.u64.wrap (gA o31 0 + 1)), h1_1]).bind fun o35 =>
 some [jA o35 0, B (bA o35 1)]
 else
 (M_wide_signed [U (gA o31 0), h1_1]).bind fun o36 =>
 some [jA o36 0, B (bA o36 1)]
attribute [go_sem] g_wide_MulDiv_1
abbrev g_wide_MulDiv_2 (o31 o30 : List AC) (M_wide_grows : Fn) (x3 : Int) (M_wide_signed : Fn) (h2_0 : AC) : Option (List AC) :=
 bif decide (gA o31 1 > IntKind.u64.wrap (gA o30 0 - gA o31 1)) then
 g_wide_MulDiv_1 M_wide_grows x3 o31 M_wide_signed (I 1) h2_0
 else
 bif decide (gA o31 1 < IntKind.u64.wrap (gA o30 0 - gA o31 1)) then
 g_wide_MulDiv_1 M_wide_grows x3 o31 M_wide_signed (I (-1)) h2_0
 else
 g_wide_MulDiv_1 M_wide_grows x3 o31 M_wide_signed (I 0) h2_0
attribute [go_sem] g_wide_MulDiv_2
theorem mf_wide_MulDiv_eq (M_wide_signed M_wide_grows M_wide_sign M_bits_Div64 M_wide_product M_wide_size M_wide_known : Fn) (x0 x1 x2 x3 : Int) : mf_wide_MulDiv M_wide_signed M_wide_grows M_wide_sign M_bits_Div64 M_wide_product M_wide_size M_wide_known [I x0, I x1, I x2, I x3] =
 bif x2 == 0 then
 some [I 0, B false]
 else
 (M_wide_known [I x3]).bind fun o26 =>
 bif !bA o26 0 then
 some [I 0, B false]
 else
 (M_wide_size [I x0]).bind fun o27 =>
 (M_wide_size [I x1]).bind fun o28 =>
 (M_wide_product [U (gA o27 0), U (gA o28 0)]).bind fun o29 =>
 (M_wide_size [I x2]).bind fun o30 =>
 bif decide (gA o29 0 >= gA o30 0) then
 some [I 0, B false]
 else
 (M_bits_Div64 [U (gA o29 0), U (gA o29 1), U (gA o30 0)]).bind fun o31 =>
 (M_wide_sign [I x0, I x1]).bind fun o32 =>
 bif !decide (gA o32 0 < 0) == decide (x2 < 0) then
 (M_wide_sign [I x0, I x1]).bind fun o33 =>
 g_wide_MulDiv_2 o31 o30 M_wide_grows x3 M_wide_signed (B (gA o33 0 != 0))
 else
 g_wide_MulDiv_2 o31 o30 M_wide_grows x3 M_wide_signed (B false) := by kernel_rfl
def m_wide_MulDiv := mf_wide_MulDiv m_wide_signed m_wide_grows m_wide_sign m_bits_Div64 m_wide_product m_wide_size m_wide_known 
theorem sp_wide_MulDiv : SpecOK Try.prog (C_wide_MulDiv_0 m_wide_signed m_wide_grows m_wide_sign m_bits_Div64 m_wide_product m_wide_size m_wide_known) := specOK_of rfl ⟨r_wide_signed, r_wide_grows, r_wide_sign, r_bits_Div64, r_wide_product, r_wide_size, r_wide_known, trivial⟩
theorem r_wide_MulDiv : RowOK Try.prog (98, spOf sig_wide_MulDiv osig_wide_MulDiv m_wide_MulDiv) := row_of (C := (C_wide_MulDiv_0 m_wide_signed m_wide_grows m_wide_sign m_bits_Div64 m_wide_product m_wide_size m_wide_known)) (L := 64) (by kernel_rfl) (FnOK.bare rfl rfl rfl) sp_wide_MulDiv eqOk mixOk (by kernel_rfl) (by kernel_rfl)
def sig_path_Find : Sk := { tmps := [TS.v true [ci, ci, ci, CS.sl kSgm, CS.sl kPt], tf [ci]], boxes := [], rows := [] }
def osig_path_Find : Sk := { tmps := [TS.tup [(false, [ci]), (false, [ci])]], boxes := [], rows := [] }
def C_path_Find_0 : Cfg := { spec := lookS [], eqOk := eqAll, ownOff := ownOff }
def sk_path_Find_3 : Sk := { tmps := [td, tf [ci], tf [CS.ptr 2 0], td, td, td, td, td, td, td, td, tf [CS.sl kSgm], tf [ci], tf [ci]] ++ dd 24, boxes := [(2, 51, [ci, ci, ci, CS.sl kSgm, CS.sl kPt])], rows := [] }
def ex_path_Find_3 : List (Ex × Sk) := [(Ex.ret, { tmps := [td, td, td, td, tf [ci], tf [ci]] ++ dd 32, boxes := [], rows := [] }), (Ex.exit 0, { tmps := [td] ++ dd 37, boxes := [], rows := [] })]
def st_path_Find_3 : Lp := stepL Try.prog C_path_Find_0 64 3 (bodyOf Try.prog 97 3) sk_path_Find_3 ex_path_Find_3
def C_path_Find_1 (N3 : Lp) : Cfg := C_path_Find_0.loop 3 sk_path_Find_3 ex_path_Find_3 N3
def mf_path_Find (N3 : Lp) : Fn := modelF Try.prog (C_path_Find_1 N3) 64 97 sig_path_Find osig_path_Find
theorem st_path_Find_3_eq (v0 : Int) (v1 : Rw) (v2 v3 v4 v5 v6 : Int) (v7 v8 : Rw) : st_path_Find_3 [I v0, .view kSgm v1, I v2, I v3, I v4, I v5, I v6, .view kSgm v7, .view kPt v8] =
 bif decide (v3 < v2) then
 bif decide (0 <= v3) && decide (v3 < (v1.length : Int)) then
 bif decide (v0 < gA (nth [] v1 v3.toNat) 3) then
 some (1, [I v3, I v0])
 else
 bif v3 == IntKind.i64.wrap ((v7.length : Int) - 1) then
 some (1, [I v3, jA (nth [] v1 v3.toNat) 3])
 else
 some (0, [I (IntKind.i64.wrap (v0 - gA (nth [] v1 v3.toNat) 3)), .view kSgm v1, I v2, I (IntKind.i64.wrap (v3 + 1)), I v4, I v5, I v6, .view kSgm v7, .view kPt v8])
 else
 none
 else
 some (2, []) := by kernel_rfl
theorem mf_path_Find_eq (N3 : Lp) (x0 x1 x2 : Int) (x3 x4 : Rw) (x5 : Int) : mf_path_Find N3 [I x0, I x1, I x2, .view kSgm x3, .view kPt x4, I x5] =
 (N3 [I (mx x5 0), .view kSgm x3, I (x3.length : Int), I 0, I x0, I x1, I x2, .view kSgm x3, .view kPt x4]).bind fun o1 =>
 bif o1.1.beq 1 then
 some [jA o1.2 0, jA o1.2 1]
 else
 bif o1.1.beq 2 then
 some [I (-1), I 0]
 else
 none := by kernel_rfl
def l_path_Find_3 := loopC (st_path_Find_3 )
def m_path_Find := mf_path_Find l_path_Find_3
theorem sp_path_Find : SpecOK Try.prog (C_path_Find_0 ) := specOK_of rfl trivial
theorem r_path_Find : RowOK Try.prog (97, spOf sig_path_Find osig_path_Find m_path_Find) := row_of (C := (C_path_Find_1 l_path_Find_3)) (L := 64) (by kernel_rfl) ((FnOK.bare rfl rfl rfl).loop sp_path_Find eqOk mixOk (by kernel_rfl) (by kernel_rfl)) sp_path_Find eqOk mixOk (by kernel_rfl) (by kernel_rfl)
def sig_path_At : Sk := { tmps := [TS.v true [ci, ci, ci, CS.sl kSgm, CS.sl kPt], tf [ci]], boxes := [], rows := [] }
def osig_path_At : Sk := { tmps := [TS.v true [ci, ci, ci]], boxes := [], rows := [] }
def C_path_At_0 (M_wide_MulDiv M_path_Find : Fn) : Cfg := { spec := lookS [(98, spOf sig_wide_MulDiv osig_wide_MulDiv M_wide_MulDiv), (97, spOf sig_path_Find osig_path_Find M_path_Find)], eqOk := eqAll, ownOff := ownOff, unroll := [9] }
def mf_path_At (M_wide_MulDiv M_path_Find : Fn) : Fn := modelF Try.prog (C_path_At_0 M_wide_MulDiv M_path_Find) 64 45 sig_path_At osig_path_At
theorem mf_path_At_eq (M_wide_MulDiv M_path_Find : Fn) (x0 x1 x2 : Int) (x3 x4 : Rw) (x5 : Int) : mf_path_At M_wide_MulDiv M_path_Find [I x0, I x1, I x2, .view kSgm x3, .view kPt x4, I x5] =
 (M_path_Find [I x0, I x1, I x2, .view kSgm x3, .view kPt x4, I x5]).bind fun o7 =>
 bif decide (gA o7 0 < 0) then
 some [I x0, I x1, I x2]
 else
 bif decide (gA o7 0 > 0) then
 bif decide (0 <= IntKind.i64.wrap (gA o7 0 - 1)) && decide (IntKind.i64.wrap (gA o7 0 - 1) < (x3.length : Int)) then
 bif decide (0 <= gA o7 0) && decide (gA o7 0 < (x3.length : Int)) then
 (M_wide_MulDiv [I (IntKind.i64.wrap (gA (nth [] x3 (gA o7 0).toNat) 0 - gA (nth [] x3 (IntKind.i64.wrap (gA o7 0 - 1)).toNat) 0)), jA o7 1, jA (nth [] x3 (gA o7 0).toNat) 3, I 2]).bind fun o8 =>
 (M_wide_MulDiv [I (IntKind.i64.wrap (gA (nth [] x3 (gA o7 0).toNat) 1 - gA (nth [] x3 (IntKind.i64.wrap (gA o7 0 - 1)).toNat) 1)), jA o7 1, jA (nth [] x3 (gA o7 0).toNat) 3, I 2]).bind fun o9 =>
 (M_wide_MulDiv [I (IntKind.i64.wrap (gA (nth [] x3 (gA o7 0).toNat) 2 - gA (nth [] x3 (IntKind.i64.wrap (gA o7 0 - 1)).toNat) 2)), jA o7 1, jA (nth [] x3 (gA o7 0).toNat) 3, I 2]).bind fun o10 =>
 some [I (IntKind.i64.wrap (gA (nth [] x3 (IntKind.i64.wrap (gA o7 0 - 1)).toNat) 0 + gA o8 0)), I (IntKind.i64.wrap (gA (nth [] x3 (IntKind.i64.wrap (gA o7 0 - 1)).toNat) 1 + gA o9 0)), I (IntKind.i64.wrap (gA (nth [] x3 (IntKind.i64.wrap (gA o7 0 - 1)).toNat) 2 + gA o10 0))]
 else
 none
 else
 none
 else
 bif decide (0 <= gA o7 0) && decide (gA o7 0 < (x3.length : Int)) then
 (M_wide_MulDiv [I (IntKind.i64.wrap (gA (nth [] x3 (gA o7 0).toNat) 0 - x0)), jA o7 1, jA (nth [] x3 (gA o7 0).toNat) 3, I 2]).bind fun o11 =>
 (M_wide_MulDiv [I (IntKind.i64.wrap (gA (nth [] x3 (gA o7 0).toNat) 1 - x1)), jA o7 1, jA (nth [] x3 (gA o7 0).toNat) 3, I 2]).bind fun o12 =>
 (M_wide_MulDiv [I (IntKind.i64.wrap (gA (nth [] x3 (gA o7 0).toNat) 2 - x2)), jA o7 1, jA (nth [] x3 (gA o7 0).toNat) 3, I 2]).bind fun o13 =>
 some [I (IntKind.i64.wrap (x0 + gA o11 0)), I (IntKind.i64.wrap (x1 + gA o12 0)), I (IntKind.i64.wrap (x2 + gA o13 0))]
 else
 none := by kernel_rfl
def m_path_At := mf_path_At m_wide_MulDiv m_path_Find 
theorem sp_path_At : SpecOK Try.prog (C_path_At_0 m_wide_MulDiv m_path_Find) := specOK_of rfl ⟨r_wide_MulDiv, r_path_Find, trivial⟩
theorem r_path_At : RowOK Try.prog (45, spOf sig_path_At osig_path_At m_path_At) := row_of (C := (C_path_At_0 m_wide_MulDiv m_path_Find)) (L := 64) (by kernel_rfl) (FnOK.bare rfl rfl rfl) sp_path_At eqOk mixOk (by kernel_rfl) (by kernel_rfl)
def sig_cncref23_root : Sk := { tmps := [tf [ci]], boxes := [], rows := [] }
def osig_cncref23_root : Sk := { tmps := [tf [ci]], boxes := [], rows := [] }
def C_cncref23_root_0 : Cfg := { spec := lookS [], eqOk := eqAll, ownOff := ownOff }
def sk_cncref23_root_3 : Sk := { tmps := [tf [ci], td, td, tf [ci], tf [ci]] ++ dd 17, boxes := [], rows := [] }
def ex_cncref23_root_3 : List (Ex × Sk) := [(Ex.exit 0, { tmps := [td, td, td, tf [ci]] ++ dd 18, boxes := [], rows := [] })]
def st_cncref23_root_3 : Lp := stepL Try.prog C_cncref23_root_0 64 3 (bodyOf Try.prog 142 3) sk_cncref23_root_3 ex_cncref23_root_3
def C_cncref23_root_1 (N3 : Lp) : Cfg := C_cncref23_root_0.loop 3 sk_cncref23_root_3 ex_cncref23_root_3 N3
def mf_cncref23_root (N3 : Lp) : Fn := modelF Try.prog (C_cncref23_root_1 N3) 64 142 sig_cncref23_root osig_cncref23_root
theorem st_cncref23_root_3_eq (v0 v1 v2 : Int) : st_cncref23_root_3 [I v0, I v1, I v2] =
 bif decide (v2 > 0) then
 bif decide (IntKind.i64.wrap (IntKind.i64.wrap (v1 + v2) * IntKind.i64.wrap (v1 + v2)) <= v0) then
 some (0, [I v0, I (IntKind.i64.wrap (v1 + v2)), I (v2.fdiv (2 ^ min (Int.toNat 1) IntKind.i64.bits))])
 else
 some (0, [I v0, I v1, I (v2.fdiv (2 ^ min (Int.toNat 1) IntKind.i64.bits))])
 else
 some (1, [I v1]) := by kernel_rfl
theorem mf_cncref23_root_eq (N3 : Lp) (x0 : Int) : mf_cncref23_root N3 [I x0] =
 (N3 [I x0, I 0, I 1073741824]).bind fun o1 =>
 bif o1.1.beq 1 then
 some [jA o1.2 0]
 else
 none := by kernel_rfl
def l_cncref23_root_3 := loopC (st_cncref23_root_3 )
def m_cncref23_root := mf_cncref23_root l_cncref23_root_3
theorem sp_cncref23_root : SpecOK Try.prog (C_cncref23_root_0 ) := specOK_of rfl trivial
theorem r_cncref23_root : RowOK Try.prog (142, spOf sig_cncref23_root osig_cncref23_root m_cncref23_root) := row_of (C := (C_cncref23_root_1 l_cncref23_root_3)) (L := 64) (by kernel_rfl) ((FnOK.bare rfl rfl rfl).loop sp_cncref23_root eqOk mixOk (by kernel_rfl) (by kernel_rfl)) sp_cncref23_root eqOk mixOk (by kernel_rfl) (by kernel_rfl)
def sig_cncref23_Square : Sk := { tmps := [TS.v true [ci, ci, ci], TS.v true [ci, ci, ci]], boxes := [], rows := [] }
def osig_cncref23_Square : Sk := { tmps := [tf [ci]], boxes := [], rows := [] }
def C_cncref23_Square_0 : Cfg := { spec := lookS [], eqOk := eqAll, ownOff := ownOff, unroll := [3] }
def mf_cncref23_Square : Fn := modelF Try.prog C_cncref23_Square_0 64 110 sig_cncref23_Square osig_cncref23_Square
theorem mf_cncref23_Square_eq (x0 x1 x2 x3 x4 x5 : Int) : mf_cncref23_Square [I x0, I x1, I x2, I x3, I x4, I x5] =
 some [I (IntKind.i64.wrap (IntKind.i64.wrap (IntKind.i64.wrap (0 + IntKind.i64.wrap (IntKind.i64.wrap (x0 - x3) * IntKind.i64.wrap (x0 - x3))) + IntKind.i64.wrap (IntKind.i64.wrap (x1 - x4) * IntKind.i64.wrap (x1 - x4))) + IntKind.i64.wrap (IntKind.i64.wrap (x2 - x5) * IntKind.i64.wrap (x2 - x5))))] := by kernel_rfl
def m_cncref23_Square := mf_cncref23_Square 
theorem sp_cncref23_Square : SpecOK Try.prog (C_cncref23_Square_0 ) := specOK_of rfl trivial
theorem r_cncref23_Square : RowOK Try.prog (110, spOf sig_cncref23_Square osig_cncref23_Square m_cncref23_Square) := row_of (C := C_cncref23_Square_0) (L := 64) (by kernel_rfl) (FnOK.bare rfl rfl rfl) sp_cncref23_Square eqOk mixOk (by kernel_rfl) (by kernel_rfl)
def sig_cncref23_Length : Sk := { tmps := [TS.v true [ci, ci, ci], TS.v true [ci, ci, ci]], boxes := [], rows := [] }
def osig_cncref23_Length : Sk := { tmps := [tf [ci]], boxes := [], rows := [] }
def C_cncref23_Length_0 (M_cncref23_root M_cncref23_Square : Fn) : Cfg := { spec := lookS [(142, spOf sig_cncref23_root osig_cncref23_root M_cncref23_root), (110, spOf sig_cncref23_Square osig_cncref23_Square M_cncref23_Square)], eqOk := eqAll, ownOff := ownOff }
def mf_cncref23_Length (M_cncref23_root M_cncref23_Square : Fn) : Fn := modelF Try.prog (C_cncref23_Length_0 M_cncref23_root M_cncref23_Square) 64 96 sig_cncref23_Length osig_cncref23_Length
theorem mf_cncref23_Length_eq (M_cncref23_root M_cncref23_Square : Fn) (x0 x1 x2 x3 x4 x5 : Int) : mf_cncref23_Length M_cncref23_root M_cncref23_Square [I x0, I x1, I x2, I x3, I x4, I x5] =
 (M_cncref23_Square [I x0, I x1, I x2, I x3, I x4, I x5]).bind fun o2 =>
 (M_cncref23_root [jA o2 0]).bind fun o3 =>
 bif decide (IntKind.i64.wrap (gA o3 0 * gA o3 0) < gA o2 0) then
 some [I (IntKind.i64.wrap (gA o3 0 + 1))]
 else
 some [jA o3 0] := by kernel_rfl
def m_cncref23_Length := mf_cncref23_Length m_cncref23_root m_cncref23_Square 
theorem sp_cncref23_Length : SpecOK Try.prog (C_cncref23_Length_0 m_cncref23_root m_cncref23_Square) := specOK_of rfl ⟨r_cncref23_root, r_cncref23_Square, trivial⟩
theorem r_cncref23_Length : RowOK Try.prog (96, spOf sig_cncref23_Length osig_cncref23_Length m_cncref23_Length) := row_of (C := (C_cncref23_Length_0 m_cncref23_root m_cncref23_Square)) (L := 64) (by kernel_rfl) (FnOK.bare rfl rfl rfl) sp_cncref23_Length eqOk mixOk (by kernel_rfl) (by kernel_rfl)
def sig_path_motion : Sk := { tmps := [tf [ci]], boxes := [], rows := [] }
def osig_path_motion : Sk := { tmps := [tf [CS.bool]], boxes := [], rows := [] }
def C_path_motion_0 : Cfg := { spec := lookS [], eqOk := eqAll, ownOff := ownOff }
def mf_path_motion : Fn := modelF Try.prog C_path_motion_0 64 137 sig_path_motion osig_path_motion
theorem mf_path_motion_eq (x0 : Int) : mf_path_motion [I x0] =
 bif decide (x0 >= 1) then
 some [B (decide (x0 <= 6))]
 else
 some [B false] := by kernel_rfl
def m_path_motion := mf_path_motion 
theorem sp_path_motion : SpecOK Try.prog (C_path_motion_0 ) := specOK_of rfl trivial
theorem r_path_motion : RowOK Try.prog (137, spOf sig_path_motion osig_path_motion m_path_motion) := row_of (C := C_path_motion_0) (L := 64) (by kernel_rfl) (FnOK.bare rfl rfl rfl) sp_path_motion eqOk mixOk (by kernel_rfl) (by kernel_rfl)
def sig_path_geared : Sk := { tmps := [TS.v true [ci, ci, ci, ci, ci, ci, ci, ci, ci, ci, ci, ci, ci, CS.bool, ci, CS.bool, ci, ci, ci, ci, ci, CS.bool]], boxes := [], rows := [] }
def osig_path_geared : Sk := { tmps := [tf [CS.bool]], boxes := [], rows := [] }
def C_path_geared_0 : Cfg := { spec := lookS [], eqOk := eqAll, ownOff := ownOff }
def mf_path_geared : Fn := modelF Try.prog C_path_geared_0 64 159 sig_path_geared osig_path_geared
theorem mf_path_geared_eq (x0 x1 x2 x3 x4 x5 x6 x7 x8 x9 x10 x11 x12 : Int) (x13 : Bool) (x14 : Int) (x15 : Bool) (x16 x17 x18 x19 x20 : Int) (x21 : Bool) : mf_path_geared [I x0, I x1, I x2, I x3, I x4, I x5, I x6, I x7, I x8, I x9, I x10, I x11, I x12, B x13, I x14, B x15, I x16, I x17, I x18, I x19, I x20, B x21] =
 bif x0 == 5 then
 some [B true]
 else
 some [B (x0 == 6)] := by kernel_rfl
def m_path_geared := mf_path_geared 
theorem sp_path_geared : SpecOK Try.prog (C_path_geared_0 ) := specOK_of rfl trivial
theorem r_path_geared : RowOK Try.prog (159, spOf sig_path_geared osig_path_geared m_path_geared) := row_of (C := C_path_geared_0) (L := 64) (by kernel_rfl) (FnOK.bare rfl rfl rfl) sp_path_geared eqOk mixOk (by kernel_rfl) (by kernel_rfl)
def sig_path_exact : Sk := { tmps := [tf [CS.sl kItm], tf [ci]], boxes := [], rows := [] }
def osig_path_exact : Sk := { tmps := [tf [CS.bool]], boxes := [], rows := [] }
def C_path_exact_0 (M_path_motion M_path_geared : Fn) : Cfg := { spec := lookS [(137, spOf sig_path_motion osig_path_motion M_path_motion), (159, spOf sig_path_geared osig_path_geared M_path_geared)], eqOk := eqAll, ownOff := ownOff }
def sk_path_exact_4 : Sk := { tmps := [td, td, td, td, td, td, td, td, td, td, td, td, td, td, td, td, td, td, td, td, td, td, td, tf [CS.sl kItm], tf [ci], tf [ci]] ++ dd 9, boxes := [], rows := [] }
def ex_path_exact_4 : List (Ex × Sk) := [(Ex.ret, { tmps := [td, td, td, td, tf [CS.bool]] ++ dd 30, boxes := [], rows := [] }), (Ex.exit 0, { tmps := [td] ++ dd 34, boxes := [], rows := [] })]
def st_path_exact_4 (M_path_motion M_path_geared : Fn) : Lp := stepL Try.prog (C_path_exact_0 M_path_motion M_path_geared) 64 4 (bodyOf Try.prog 163 4) sk_path_exact_4 ex_path_exact_4
def C_path_exact_1 (M_path_motion M_path_geared : Fn) (N4 : Lp) : Cfg := (C_path_exact_0 M_path_motion M_path_geared).loop 4 sk_path_exact_4 ex_path_exact_4 N4
def mf_path_exact (M_path_motion M_path_geared : Fn) (N4 : Lp) : Fn := modelF Try.prog (C_path_exact_1 M_path_motion M_path_geared N4) 64 163 sig_path_exact osig_path_exact
theorem st_path_exact_4_eq (M_path_motion M_path_geared : Fn) (v0 : Rw) (v1 v2 : Int) : st_path_exact_4 M_path_motion M_path_geared [.view kItm v0, I v1, I v2] =
 bif decide (v2 < v1) then
 bif decide (0 <= v2) && decide (v2 < (v0.length : Int)) then
 (M_path_motion [jA (nth [] v0 v2.toNat) 0]).bind fun o5 =>
 bif bA o5 0 then
 (M_path_geared [jA (nth [] v0 v2.toNat) 0, jA (nth [] v0 v2.toNat) 1, jA (nth [] v0 v2.toNat) 2, jA (nth [] v0 v2.toNat) 3, jA (nth [] v0 v2.toNat) 4, jA (nth [] v0 v2.toNat) 5, jA (nth [] v0 v2.toNat) 6, jA (nth [] v0 v2.toNat) 7, jA (nth [] v0 v2.toNat) 8, jA (nth [] v0 v2.toNat) 9, jA (nth [] v0 v2.toNat) 10, jA (nth [] v0 v2.toNat) 11, jA (nth [] v0 v2.toNat) 12, B (bA (nth [] v0 v2.toNat) 13), jA (nth [] v0 v2.toNat) 14, B (bA (nth [] v0 v2.toNat) 15), jA (nth [] v0 v2.toNat) 16, jA (nth [] v0 v2.toNat) 17, jA (nth [] v0 v2.toNat) 18, jA (nth [] v0 v2.toNat) 19, jA (nth [] v0 v2.toNat) 20, B (bA (nth [] v0 v2.toNat) 21)]).bind fun o6 =>
 some (1, [B (bA o6 0)])
 else
 some (0, [.view kItm v0, I v1, I (IntKind.i64.wrap (v2 + 1))])
 else
 none
 else
 some (2, []) := by kernel_rfl
theorem mf_path_exact_eq (M_path_motion M_path_geared : Fn) (N4 : Lp) (x0 : Rw) (x1 : Int) : mf_path_exact M_path_motion M_path_geared N4 [.view kItm x0, I x1] =
 bif decide (0 <= x1) && decide (x1 < (x0.length : Int)) then
 bif gA (nth [] x0 x1.toNat) 18 == 0 then
 some [B true]
 else
 bif decide (0 <= x1) && decide (x1 < (x0.length : Int)) then
 (M_path_geared [jA (nth [] x0 x1.toNat) 0, jA (nth [] x0 x1.toNat) 1, jA (nth [] x0 x1.toNat) 2, jA (nth [] x0 x1.toNat) 3, jA (nth [] x0 x1.toNat) 4, jA (nth [] x0 x1.toNat) 5, jA (nth [] x0 x1.toNat) 6, jA (nth [] x0 x1.toNat) 7, jA (nth [] x0 x1.toNat) 8, jA (nth [] x0 x1.toNat) 9, jA (nth [] x0 x1.toNat) 10, jA (nth [] x0 x1.toNat) 11, jA (nth [] x0 x1.toNat) 12, B (bA (nth [] x0 x1.toNat) 13), jA (nth [] x0 x1.toNat) 14, B (bA (nth [] x0 x1.toNat) 15), jA (nth [] x0 x1.toNat) 16, jA (nth [] x0 x1.toNat) 17, jA (nth [] x0 x1.toNat) 18, jA (nth [] x0 x1.toNat) 19, jA (nth [] x0 x1.toNat) 20, B (bA (nth [] x0 x1.toNat) 21)]).bind fun o7 =>
 bif bA o7 0 then
 some [B true]
 else
 bif decide (0 <= IntKind.i64.wrap (x1 + 1)) && decide (IntKind.i64.wrap (x1 + 1) <= (x0.length : Int)) then
 (N4 [.view kItm (List.drop (IntKind.i64.wrap (x1 + 1)).toNat x0), I (↑(List.drop (IntKind.i64.wrap (x1 + 1)).toNat x0).length : Int), I 0]).bind fun o8 =>
 bif o8.1.beq 1 then
 some [B (bA o8.2 0)]
 else
 bif o8.1.beq 2 then
 some [B false]
 else
 none
 else
 none
 else
 none
 else
 none := by kernel_rfl
def l_path_exact_4 := loopC (st_path_exact_4 m_path_motion m_path_geared )
def m_path_exact := mf_path_exact m_path_motion m_path_geared l_path_exact_4
theorem sp_path_exact : SpecOK Try.prog (C_path_exact_0 m_path_motion m_path_geared) := specOK_of rfl ⟨r_path_motion, r_path_geared, trivial⟩
theorem r_path_exact : RowOK Try.prog (163, spOf sig_path_exact osig_path_exact m_path_exact) := row_of (C := (C_path_exact_1 m_path_motion m_path_geared l_path_exact_4)) (L := 64) (by kernel_rfl) ((FnOK.bare rfl rfl rfl).loop sp_path_exact eqOk mixOk (by kernel_rfl) (by kernel_rfl)) sp_path_exact eqOk mixOk (by kernel_rfl) (by kernel_rfl)
def sig_path_builder_mark : Sk := { tmps := [tf [CS.ptr 20000 0], tf [CS.sl kItm], tf [ci]], boxes := [(20000, 125, [ci, ci, ci, CS.own 20000 7, CS.own 20001 3, CS.bool, ci, ci, ci])], rows := [(20000, 74, kSgm), (20001, 79, kPt)] }
def osig_path_builder_mark : Sk := { tmps := [TS.tup []], boxes := [(20000, 125, [ci, ci, ci, CS.own 20000 7, CS.own 20001 3, CS.bool, ci, ci, ci])], rows := [(20000, 74, kSgm), (20001, 79, kPt)] }
def C_path_builder_mark_0 (M_path_exact M_path_motion : Fn) : Cfg := { spec := lookS [(163, spOf sig_path_exact osig_path_exact M_path_exact), (137, spOf sig_path_motion osig_path_motion M_path_motion)], eqOk := eqAll, ownOff := ownOff }
def mf_path_builder_mark (M_path_exact M_path_motion : Fn) : Fn := modelF Try.prog (C_path_builder_mark_0 M_path_exact M_path_motion) 64 141 sig_path_builder_mark osig_path_builder_mark
abbrev g_path_builder_mark_1 (M_path_motion : Fn) (x2 : Rw) (x3 : Int) (x1 : Rw) (x8 : Int) (x0 : Rw) (x4 x5 x6 : Int) (x7 : Bool) (x9 x10 : Int) : Option (List AC) :=
 (M_path_motion [jA (nth [] x2 x3.toNat) 0]).bind fun o6 =>
 bif bA o6 0 then
 bif ((x1 ++ [[I x8, I 2, I x3]]).length * 24).ble 140737488355328 then
 some [.view kSgm x0, .view kPt (x1 ++ [[I x8, I 2, I x3]]), I x4, I x5, I x6, B x7, I x8, I x9, I x10]
 else
 none
 else
 bif gA (nth [] x2 x3.toNat) 0 == 10 then
 bif ((x1 ++ [[I x8, I 5, I x3]]).length * 24).ble 140737488355328 then
 some [.view kSgm x0, .view kPt (x1 ++ [[I x8, I 5, I x3]]), I x4, I x5, I x6, B x7, I x8, I x9, I x10]
 else
 none
 else
 bif gA (nth [] x2 x3.toNat) 0 == 13 then
 bif ((x1 ++ [[I x8, I 4, I x3]]).length * 24).ble 140737488355328 then
 some [.view kSgm x0, .view kPt (x1 ++ [[I x8, I 4, I x3]]), I x4, I x5, I x6, B x7, I x8, I x9, I x10]
 else
 none
 else
 bif ((x1 ++ [[I x8, I 3, I x3]]).length * 24).ble 140737488355328 then
 some [.view kSgm x0, .view kPt (x1 ++ [[I x8, I 3, I x3]]), I x4, I x5, I x6, B x7, I x8, I x9, I x10]
 else
 none
attribute [go_sem] g_path_builder_mark_1
theorem mf_path_builder_mark_eq (M_path_exact M_path_motion : Fn) (x0 x1 x2 : Rw) (x3 x4 x5 x6 : Int) (x7 : Bool) (x8 x9 x10 : Int) : mf_path_builder_mark M_path_exact M_path_motion [.view kSgm x0, .view kPt x1, .view kItm x2, I x3, I x4, I x5, I x6, B x7, I x8, I x9, I x10] =
 bif decide (0 <= x3) && decide (x3 < (x2.length : Int)) then
 bif gA (nth [] x2 x3.toNat) 0 == 4 then
 bif ((x1 ++ [[I x8, I 6, I x3]]).length * 24).ble 140737488355328 then
 some [.view kSgm x0, .view kPt (x1 ++ [[I x8, I 6, I x3]]), I x4, I x5, I x6, B x7, I x8, I x9, I x10]
 else
 none
 else
 (M_path_motion [jA (nth [] x2 x3.toNat) 0]).bind fun o4 =>
 bif bA o4 0 then
 (M_path_exact [.view kItm x2, I x3]).bind fun o5 =>
 bif bA o5 0 then
 bif ((x1 ++ [[I x8, I 1, I x3]]).length * 24).ble 140737488355328 then
 some [.view kSgm x0, .view kPt (x1 ++ [[I x8, I 1, I x3]]), I x4, I x5, I x6, B x7, I x8, I x9, I x10]
 else
 none
 else
 g_path_builder_mark_1 M_path_motion x2 x3 x1 x8 x0 x4 x5 x6 x7 x9 x10
 else
 g_path_builder_mark_1 M_path_motion x2 x3 x1 x8 x0 x4 x5 x6 x7 x9 x10
 else
 none := by kernel_rfl
def m_path_builder_mark := mf_path_builder_mark m_path_exact m_path_motion 
theorem sp_path_builder_mark : SpecOK Try.prog (C_path_builder_mark_0 m_path_exact m_path_motion) := specOK_of rfl ⟨r_path_exact, r_path_motion, trivial⟩
theorem r_path_builder_mark : RowOK Try.prog (141, spOf sig_path_builder_mark osig_path_builder_mark m_path_builder_mark) := row_of (C := (C_path_builder_mark_0 m_path_exact m_path_motion)) (L := 64) (by kernel_rfl) (FnOK.bare rfl rfl rfl) sp_path_builder_mark eqOk mixOk (by kernel_rfl) (by kernel_rfl)
def sig_path_middle : Sk := { tmps := [TS.v true [ci, ci, ci, ci, ci, ci, ci, ci, ci, ci, ci, ci, ci, CS.bool, ci, CS.bool, ci, ci, ci, ci, ci, CS.bool]], boxes := [], rows := [] }
def osig_path_middle : Sk := { tmps := [TS.v true [ci, ci, ci]], boxes := [], rows := [] }
def C_path_middle_0 : Cfg := { spec := lookS [], eqOk := eqAll, ownOff := ownOff }
def mf_path_middle : Fn := modelF Try.prog C_path_middle_0 64 162 sig_path_middle osig_path_middle
theorem mf_path_middle_eq (x0 x1 x2 x3 x4 x5 x6 x7 x8 x9 x10 x11 x12 : Int) (x13 : Bool) (x14 : Int) (x15 : Bool) (x16 x17 x18 x19 x20 : Int) (x21 : Bool) : mf_path_middle [I x0, I x1, I x2, I x3, I x4, I x5, I x6, I x7, I x8, I x9, I x10, I x11, I x12, B x13, I x14, B x15, I x16, I x17, I x18, I x19, I x20, B x21] =
 some [I (IntKind.i64.wrap (IntKind.i64.wrap (x2 + x5) * 8)), I (IntKind.i64.wrap (IntKind.i64.wrap (x3 + x6) * 8)), I (IntKind.i64.wrap (IntKind.i64.wrap (x4 + x7) * 8))] := by kernel_rfl
def m_path_middle := mf_path_middle 
theorem sp_path_middle : SpecOK Try.prog (C_path_middle_0 ) := specOK_of rfl trivial
theorem r_path_middle : RowOK Try.prog (162, spOf sig_path_middle osig_path_middle m_path_middle) := row_of (C := C_path_middle_0) (L := 64) (by kernel_rfl) (FnOK.bare rfl rfl rfl) sp_path_middle eqOk mixOk (by kernel_rfl) (by kernel_rfl)
def sig_path_smooth : Sk := { tmps := [TS.v true [ci, ci, ci, ci, ci, ci, ci, ci, ci, ci, ci, ci, ci, CS.bool, ci, CS.bool, ci, ci, ci, ci, ci, CS.bool]], boxes := [], rows := [] }
def osig_path_smooth : Sk := { tmps := [tf [CS.bool]], boxes := [], rows := [] }
def C_path_smooth_0 : Cfg := { spec := lookS [], eqOk := eqAll, ownOff := ownOff }
def mf_path_smooth : Fn := modelF Try.prog C_path_smooth_0 64 102 sig_path_smooth osig_path_smooth
theorem mf_path_smooth_eq (x0 x1 x2 x3 x4 x5 x6 x7 x8 x9 x10 x11 x12 : Int) (x13 : Bool) (x14 : Int) (x15 : Bool) (x16 x17 x18 x19 x20 : Int) (x21 : Bool) : mf_path_smooth [I x0, I x1, I x2, I x3, I x4, I x5, I x6, I x7, I x8, I x9, I x10, I x11, I x12, B x13, I x14, B x15, I x16, I x17, I x18, I x19, I x20, B x21] =
 bif x0 == 2 then
 some [B !(x2 == x5 && (x3 == x6 && (x4 == x7 && true)))]
 else
 some [B false] := by kernel_rfl
def m_path_smooth := mf_path_smooth 
theorem sp_path_smooth : SpecOK Try.prog (C_path_smooth_0 ) := specOK_of rfl trivial
theorem r_path_smooth : RowOK Try.prog (102, spOf sig_path_smooth osig_path_smooth m_path_smooth) := row_of (C := C_path_smooth_0) (L := 64) (by kernel_rfl) (FnOK.bare rfl rfl rfl) sp_path_smooth eqOk mixOk (by kernel_rfl) (by kernel_rfl)
def sig_wide_compare : Sk := { tmps := [TS.v true [CS.int .u64, CS.int .u64], TS.v true [CS.int .u64, CS.int .u64]], boxes := [], rows := [] }
def osig_wide_compare : Sk := { tmps := [tf [ci]], boxes := [], rows := [] }
def C_wide_compare_0 : Cfg := { spec := lookS [], eqOk := eqAll, ownOff := ownOff }
def mf_wide_compare : Fn := modelF Try.prog C_wide_compare_0 64 105 sig_wide_compare osig_wide_compare
theorem mf_wide_compare_eq (x0 x1 x2 x3 : Int) : mf_wide_compare [U x0, U x1, U x2, U x3] =
 bif decide (x0 < x2) then
 some [I (-1)]
 else
 bif x0 == x2 then
 bif decide (x1 < x3) then
 some [I (-1)]
 else
 bif x0 == x2 && (x1 == x3 && true) then
 some [I 0]
 else
 some [I 1]
 else
 bif x0 == x2 && (x1 == x3 && true) then
 some [I 0]
 else
 some [I 1] := by kernel_rfl
def m_wide_compare := mf_wide_compare 
theorem sp_wide_compare : SpecOK Try.prog (C_wide_compare_0 ) := specOK_of rfl trivial
theorem r_wide_compare : RowOK Try.prog (105, spOf sig_wide_compare osig_wide_compare m_wide_compare) := row_of (C := C_wide_compare_0) (L := 64) (by kernel_rfl) (FnOK.bare rfl rfl rfl) sp_wide_compare eqOk mixOk (by kernel_rfl) (by kernel_rfl)
def sig_wide_floorRoot : Sk := { tmps := [TS.v true [CS.int .u64, CS.int .u64]], boxes := [], rows := [] }
def osig_wide_floorRoot : Sk := { tmps := [tf [CS.int .u64]], boxes := [], rows := [] }
def C_wide_floorRoot_0 (M_wide_compare M_wide_product : Fn) : Cfg := { spec := lookS [(105, spOf sig_wide_compare osig_wide_compare M_wide_compare), (106, spOf sig_wide_product osig_wide_product M_wide_product)], eqOk := eqAll, ownOff := ownOff }
def sk_wide_floorRoot_3 : Sk := { tmps := [td, tf [CS.ptr 1 0], td, tf [CS.int .u64], tf [CS.int .u64]] ++ dd 16, boxes := [(1, 134, [CS.int .u64, CS.int .u64])], rows := [] }
def ex_wide_floorRoot_3 : List (Ex × Sk) := [(Ex.exit 0, { tmps := [td, td, td, tf [CS.int .u64]] ++ dd 17, boxes := [], rows := [] })]
def st_wide_floorRoot_3 (M_wide_compare M_wide_product : Fn) : Lp := stepL Try.prog (C_wide_floorRoot_0 M_wide_compare M_wide_product) 64 3 (bodyOf Try.prog 172 3) sk_wide_floorRoot_3 ex_wide_floorRoot_3
def C_wide_floorRoot_1 (M_wide_compare M_wide_product : Fn) (N3 : Lp) : Cfg := (C_wide_floorRoot_0 M_wide_compare M_wide_product).loop 3 sk_wide_floorRoot_3 ex_wide_floorRoot_3 N3
def mf_wide_floorRoot (M_wide_compare M_wide_product : Fn) (N3 : Lp) : Fn := modelF Try.prog (C_wide_floorRoot_1 M_wide_compare M_wide_product N3) 64 172 sig_wide_floorRoot osig_wide_floorRoot
theorem st_wide_floorRoot_3_eq (M_wide_compare M_wide_product : Fn) (v0 v1 v2 v3 : Int) : st_wide_floorRoot_3 M_wide_compare M_wide_product [U v0, U v1, U v2, U v3] =
 bif decide (v1 > 0) then
 (M_wide_product [U (IntKind.u64.wrap (↑(BitVec.ofInt IntKind.u64.bits v0 ||| BitVec.ofInt IntKind.u64.bits v1).toNat : Int)), U (IntKind.u64.wrap (↑(BitVec.ofInt IntKind.u64.bits v0 ||| BitVec.ofInt IntKind.u64.bits v1).toNat : Int))]).bind fun o3 =>
 (M_wide_compare [U (gA o3 0), U (gA o3 1), U v2, U v3]).bind fun o4 =>
 bif decide (gA o4 0 <= 0) then
 some (0, [U (IntKind.u64.wrap (↑(BitVec.ofInt IntKind.u64.bits v0 ||| BitVec.ofInt IntKind.u64.bits v1).toNat : Int)), U (v1.fdiv (2 ^ min (Int.toNat 1) IntKind.u64.bits)), U v2, U v3])
 else
 some (0, [U v0, U (v1.fdiv (2 ^ min (Int.toNat 1) IntKind.u64.bits)), U v2, U v3])
 else
 some (1, [U v0]) := by kernel_rfl
theorem mf_wide_floorRoot_eq (M_wide_compare M_wide_product : Fn) (N3 : Lp) (x0 x1 : Int) : mf_wide_floorRoot M_wide_compare M_wide_product N3 [U x0, U x1] =
 (N3 [U 0, U 9223372036854775808, U x0, U x1]).bind fun o5 =>
 bif o5.1.beq 1 then
 some [U (gA o5.2 0)]
 else
 none := by kernel_rfl
def l_wide_floorRoot_3 := loopC (st_wide_floorRoot_3 m_wide_compare m_wide_product )
def m_wide_floorRoot := mf_wide_floorRoot m_wide_compare m_wide_product l_wide_floorRoot_3
theorem sp_wide_floorRoot : SpecOK Try.prog (C_wide_floorRoot_0 m_wide_compare m_wide_product) := specOK_of rfl ⟨r_wide_compare, r_wide_product, trivial⟩
theorem r_wide_floorRoot : RowOK Try.prog (172, spOf sig_wide_floorRoot osig_wide_floorRoot m_wide_floorRoot) := row_of (C := (C_wide_floorRoot_1 m_wide_compare m_wide_product l_wide_floorRoot_3)) (L := 64) (by kernel_rfl) ((FnOK.bare rfl rfl rfl).loop sp_wide_floorRoot eqOk mixOk (by kernel_rfl) (by kernel_rfl)) sp_wide_floorRoot eqOk mixOk (by kernel_rfl) (by kernel_rfl)
def sig_wide_root : Sk := { tmps := [TS.v true [CS.int .u64, CS.int .u64], tf [ci]], boxes := [], rows := [] }
def osig_wide_root : Sk := { tmps := [TS.tup [(false, [ci]), (false, [CS.bool])]], boxes := [], rows := [] }
def C_wide_root_0 (M_wide_signed M_bits_Sub64 M_bits_Mul64 M_wide_floorRoot : Fn) : Cfg := { spec := lookS [(146, spOf sig_wide_signed osig_wide_signed M_wide_signed), (173, spOf sig_bits_Sub64 osig_bits_Sub64 M_bits_Sub64), (147, spOf sig_bits_Mul64 osig_bits_Mul64 M_bits_Mul64), (172, spOf sig_wide_floorRoot osig_wide_floorRoot M_wide_floorRoot)], eqOk := eqAll, ownOff := ownOff }
def mf_wide_root (M_wide_signed M_bits_Sub64 M_bits_Mul64 M_wide_floorRoot : Fn) : Fn := modelF Try.prog (C_wide_root_0 M_wide_signed M_bits_Sub64 M_bits_Mul64 M_wide_floorRoot) 64 156 sig_wide_root osig_wide_root
abbrev g_wide_root_1 (x2 : Int) (o17 : List AC) (M_wide_signed : Fn) (o14 o16 : List AC) : Option (List AC) :=
 bif x2 == 2 then
 bif decide (gA o17 0 > 0) then
 (M_wide_signed [U (IntKind.u64.wrap (gA o14 0 + 1)), B false]).bind fun o20 =>
 some [jA o20 0, B (bA o20 1)]
 else
 bif decide (gA o16 0 > gA o14 0) then
 (M_wide_signed [U (IntKind.u64.wrap (gA o14 0 + 1)), B false]).bind fun o21 =>
 some [jA o21 0, B (bA o21 1)]
 else
 (M_wide_signed [U (gA o14 0), B false]).bind fun o22 =>
 some [jA o22 0, B (bA o22 1)]
 else
 (M_wide_signed [U (gA o14 0), B false]).bind fun o23 =>
 some [jA o23 0, B (bA o23 1)]
attribute [go_sem] g_wide_root_1
theorem mf_wide_root_eq (M_wide_signed M_bits_Sub64 M_bits_Mul64 M_wide_floorRoot : Fn) (x0 x1 x2 : Int) : mf_wide_root M_wide_signed M_bits_Sub64 M_bits_Mul64 M_wide_floorRoot [U x0, U x1, I x2] =
 (M_wide_floorRoot [U x0, U x1]).bind fun o14 =>
 (M_bits_Mul64 [U (gA o14 0), U (gA o14 0)]).bind fun o15 =>
 (M_bits_Sub64 [U x1, U (gA o15 1), U 0]).bind fun o16 =>
 (M_bits_Sub64 [U x0, U (gA o15 0), U (gA o16 1)]).bind fun o17 =>
 bif x2 == 1 then
 bif decide (gA o17 0 > 0) then
 (M_wide_signed [U (IntKind.u64.wrap (gA o14 0 + 1)), B false]).bind fun o18 =>
 some [jA o18 0, B (bA o18 1)]
 else
 bif decide (gA o16 0 > 0) then
 (M_wide_signed [U (IntKind.u64.wrap (gA o14 0 + 1)), B false]).bind fun o19 =>
 some [jA o19 0, B (bA o19 1)]
 else
 g_wide_root_1 x2 o17 M_wide_signed o14 o16
 else
 g_wide_root_1 x2 o17 M_wide_signed o14 o16 := by kernel_rfl
def m_wide_root := mf_wide_root m_wide_signed m_bits_Sub64 m_bits_Mul64 m_wide_floorRoot 
theorem sp_wide_root : SpecOK Try.prog (C_wide_root_0 m_wide_signed m_bits_Sub64 m_bits_Mul64 m_wide_floorRoot) := specOK_of rfl ⟨r_wide_signed, r_bits_Sub64, r_bits_Mul64, r_wide_floorRoot, trivial⟩
theorem r_wide_root : RowOK Try.prog (156, spOf sig_wide_root osig_wide_root m_wide_root) := row_of (C := (C_wide_root_0 m_wide_signed m_bits_Sub64 m_bits_Mul64 m_wide_floorRoot)) (L := 64) (by kernel_rfl) (FnOK.bare rfl rfl rfl) sp_wide_root eqOk mixOk (by kernel_rfl) (by kernel_rfl)
def sig_wide_Sqrt : Sk := { tmps := [tf [ci], tf [ci]], boxes := [], rows := [] }
def osig_wide_Sqrt : Sk := { tmps := [TS.tup [(false, [ci]), (false, [CS.bool])]], boxes := [], rows := [] }
def C_wide_Sqrt_0 (M_wide_root M_wide_known : Fn) : Cfg := { spec := lookS [(156, spOf sig_wide_root osig_wide_root M_wide_root), (143, spOf sig_wide_known osig_wide_known M_wide_known)], eqOk := eqAll, ownOff := ownOff }
def mf_wide_Sqrt (M_wide_root M_wide_known : Fn) : Fn := modelF Try.prog (C_wide_Sqrt_0 M_wide_root M_wide_known) 64 134 sig_wide_Sqrt osig_wide_Sqrt
theorem mf_wide_Sqrt_eq (M_wide_root M_wide_known : Fn) (x0 x1 : Int) : mf_wide_Sqrt M_wide_root M_wide_known [I x0, I x1] =
 bif decide (x0 < 0) then
 some [I 0, B false]
 else
 (M_wide_known [I x1]).bind fun o2 =>
 bif !bA o2 0 then
 some [I 0, B false]
 else
 (M_wide_root [U 0, U (IntKind.u64.wrap x0), I x1]).bind fun o3 =>
 some [jA o3 0, B (bA o3 1)] := by kernel_rfl
def m_wide_Sqrt := mf_wide_Sqrt m_wide_root m_wide_known 
theorem sp_wide_Sqrt : SpecOK Try.prog (C_wide_Sqrt_0 m_wide_root m_wide_known) := specOK_of rfl ⟨r_wide_root, r_wide_known, trivial⟩
theorem r_wide_Sqrt : RowOK Try.prog (134, spOf sig_wide_Sqrt osig_wide_Sqrt m_wide_Sqrt) := row_of (C := (C_wide_Sqrt_0 m_wide_root m_wide_known)) (L := 64) (by kernel_rfl) (FnOK.bare rfl rfl rfl) sp_wide_Sqrt eqOk mixOk (by kernel_rfl) (by kernel_rfl)
def sig_curve_Length : Sk := { tmps := [TS.v true [ci, ci, ci], TS.v true [ci, ci, ci]], boxes := [], rows := [] }
def osig_curve_Length : Sk := { tmps := [tf [ci]], boxes := [], rows := [] }
def C_curve_Length_0 (M_wide_Sqrt : Fn) : Cfg := { spec := lookS [(134, spOf sig_wide_Sqrt osig_wide_Sqrt M_wide_Sqrt)], eqOk := eqAll, ownOff := ownOff, unroll := [3] }
def mf_curve_Length (M_wide_Sqrt : Fn) : Fn := modelF Try.prog (C_curve_Length_0 M_wide_Sqrt) 64 177 sig_curve_Length osig_curve_Length
theorem mf_curve_Length_eq (M_wide_Sqrt : Fn) (x0 x1 x2 x3 x4 x5 : Int) : mf_curve_Length M_wide_Sqrt [I x0, I x1, I x2, I x3, I x4, I x5] =
 (M_wide_Sqrt [I (IntKind.i64.wrap (IntKind.i64.wrap (IntKind.i64.wrap (0 + IntKind.i64.wrap (IntKind.i64.wrap (x0 - x3) * IntKind.i64.wrap (x0 - x3))) + IntKind.i64.wrap (IntKind.i64.wrap (x1 - x4) * IntKind.i64.wrap (x1 - x4))) + IntKind.i64.wrap (IntKind.i64.wrap (x2 - x5) * IntKind.i64.wrap (x2 - x5)))), I 1]).bind fun o1 =>
 some [jA o1 0] := by kernel_rfl
def m_curve_Length := mf_curve_Length m_wide_Sqrt 
theorem sp_curve_Length : SpecOK Try.prog (C_curve_Length_0 m_wide_Sqrt) := specOK_of rfl ⟨r_wide_Sqrt, trivial⟩
theorem r_curve_Length : RowOK Try.prog (177, spOf sig_curve_Length osig_curve_Length m_curve_Length) := row_of (C := (C_curve_Length_0 m_wide_Sqrt)) (L := 64) (by kernel_rfl) (FnOK.bare rfl rfl rfl) sp_curve_Length eqOk mixOk (by kernel_rfl) (by kernel_rfl)
def sig_path_builder_add : Sk := { tmps := [tf [CS.ptr 20000 0], TS.v true [ci, ci, ci], TS.v true [ci, ci, ci, ci, ci, ci, ci]], boxes := [(20000, 125, [ci, ci, ci, CS.own 20000 7, CS.own 20001 3, CS.bool, ci, ci, ci])], rows := [(20000, 74, kSgm), (20001, 79, kPt)] }
def osig_path_builder_add : Sk := { tmps := [TS.tup []], boxes := [(20000, 125, [ci, ci, ci, CS.own 20000 7, CS.own 20001 3, CS.bool, ci, ci, ci])], rows := [(20000, 74, kSgm), (20001, 79, kPt)] }
def C_path_builder_add_0 (M_curve_Length : Fn) : Cfg := { spec := lookS [(177, spOf sig_curve_Length osig_curve_Length M_curve_Length)], eqOk := eqAll, ownOff := ownOff }
def mf_path_builder_add (M_curve_Length : Fn) : Fn := modelF Try.prog (C_path_builder_add_0 M_curve_Length) 64 161 sig_path_builder_add osig_path_builder_add
abbrev g_path_builder_add_1 (x15 : Bool) (x0 x1 : Rw) (x2 x3 x4 x16 x17 x18 x12 x13 x14 : Int) (M_curve_Length : Fn) (x9 x10 x11 : Int) (h1_0 : Bool) (h1_1 h1_2 h1_3 : AC) : Option (List AC) :=
 bif !x15 then
 some [.view kSgm x0, .view kPt x1, I x2, I x3, I x4, B true, I x16, I x17, I x18]
 else
 bif h1_0 then
 some [.view kSgm x0, .view kPt x1, I x12, I x13, I x14, B x15, I x16, I x17, I x18]
 else
 (M_curve_Length [h1_1, h1_2, h1_3, I x2, I x3, I x4]).bind fun o2 =>
 bif ((x0 ++ [[I x2, I x3, I x4, jA o2 0, I x9, I x10, I x11]]).length * 56).ble 140737488355328 then
 some [.view kSgm (x0 ++ [[I x2, I x3, I x4, jA o2 0, I x9, I x10, I x11]]), .view kPt x1, I x12, I x13, I x14, B x15, I (IntKind.i64.wrap (x16 + gA o2 0)), I x17, I x18]
 else
 none
attribute [go_sem] g_path_builder_add_1
theorem mf_path_builder_add_eq (M_curve_Length : Fn) (x0 x1 : Rw) (x2 x3 x4 x5 x6 x7 x8 x9 x10 x11 x12 x13 x14 : Int) (x15 : Bool) (x16 x17 x18 : Int) : mf_path_builder_add M_curve_Length [.view kSgm x0, .view kPt x1, I x2, I x3, I x4, I x5, I x6, I x7, I x8, I x9, I x10, I x11, I x12, I x13, I x14, B x15, I x16, I x17, I x18] =
 bif decide ((x0.length : Int) > 0) then
 bif decide (0 <= IntKind.i64.wrap ((x0.length : Int) - 1)) && decide (IntKind.i64.wrap ((x0.length : Int) - 1) < (x0.length : Int)) then
 g_path_builder_add_1 x15 x0 x1 x2 x3 x4 x16 x17 x18 x12 x13 x14 M_curve_Length x9 x10 x11 (x2 == gA (nth [] x0 (IntKind.i64.wrap ((x0.length : Int) - 1)).toNat) 0 && (x3 == gA (nth [] x0 (IntKind.i64.wrap ((x0.length : Int) - 1)).toNat) 1 && (x4 == gA (nth [] x0 (IntKind.i64.wrap ((x0.length : Int) - 1)).toNat) 2 && true))) (jA (nth [] x0 (IntKind.i64.wrap ((x0.length : Int) - 1)).toNat) 0) (jA (nth [] x0 (IntKind.i64.wrap ((x0.length : Int) - 1)).toNat) 1) (jA (nth [] x0 (IntKind.i64.wrap ((x0.length : Int) - 1)).toNat) 2)
 else
 none
 else
 g_path_builder_add_1 x15 x0 x1 x2 x3 x4 x16 x17 x18 x12 x13 x14 M_curve_Length x9 x10 x11 (x2 == x12 && (x3 == x13 && (x4 == x14 && true))) (I x12) (I x13) (I x14) := by kernel_rfl
def m_path_builder_add := mf_path_builder_add m_curve_Length 
theorem sp_path_builder_add : SpecOK Try.prog (C_path_builder_add_0 m_curve_Length) := specOK_of rfl ⟨r_curve_Length, trivial⟩
theorem r_path_builder_add : RowOK Try.prog (161, spOf sig_path_builder_add osig_path_builder_add m_path_builder_add) := row_of (C := (C_path_builder_add_0 m_curve_Length)) (L := 64) (by kernel_rfl) (FnOK.bare rfl rfl rfl) sp_path_builder_add eqOk mixOk (by kernel_rfl) (by kernel_rfl)
def sig_path_next : Sk := { tmps := [tf [CS.sl kItm], tf [ci]], boxes := [], rows := [] }
def osig_path_next : Sk := { tmps := [tf [ci]], boxes := [], rows := [] }
def C_path_next_0 : Cfg := { spec := lookS [], eqOk := eqAll, ownOff := ownOff }
def sk_path_next_2 : Sk := { tmps := [tf [CS.sl kItm], tf [ci]] ++ dd 20, boxes := [], rows := [] }
def ex_path_next_2 : List (Ex × Sk) := [(Ex.exit 0, { tmps := [td, tf [ci]] ++ dd 20, boxes := [], rows := [] })]
def st_path_next_2 : Lp := stepL Try.prog C_path_next_0 64 2 (bodyOf Try.prog 139 2) sk_path_next_2 ex_path_next_2
def C_path_next_1 (N2 : Lp) : Cfg := C_path_next_0.loop 2 sk_path_next_2 ex_path_next_2 N2
def mf_path_next (N2 : Lp) : Fn := modelF Try.prog (C_path_next_1 N2) 64 139 sig_path_next osig_path_next
theorem st_path_next_2_eq (v0 : Rw) (v1 : Int) : st_path_next_2 [.view kItm v0, I v1] =
 bif decide (v1 < (v0.length : Int)) then
 bif decide (0 <= v1) && decide (v1 < (v0.length : Int)) then
 bif gA (nth [] v0 v1.toNat) 0 == 10 then
 some (0, [.view kItm v0, I (IntKind.i64.wrap (v1 + 1))])
 else
 some (1, [I v1])
 else
 none
 else
 some (1, [I v1]) := by kernel_rfl
theorem mf_path_next_eq (N2 : Lp) (x0 : Rw) (x1 : Int) : mf_path_next N2 [.view kItm x0, I x1] =
 (N2 [.view kItm x0, I (IntKind.i64.wrap (x1 + 1))]).bind fun o1 =>
 bif o1.1.beq 1 then
 some [jA o1.2 0]
 else
 none := by kernel_rfl
def l_path_next_2 := loopC (st_path_next_2 )
def m_path_next := mf_path_next l_path_next_2
theorem sp_path_next : SpecOK Try.prog (C_path_next_0 ) := specOK_of rfl trivial
theorem r_path_next : RowOK Try.prog (139, spOf sig_path_next osig_path_next m_path_next) := row_of (C := (C_path_next_1 l_path_next_2)) (L := 64) (by kernel_rfl) ((FnOK.bare rfl rfl rfl).loop sp_path_next eqOk mixOk (by kernel_rfl) (by kernel_rfl)) sp_path_next eqOk mixOk (by kernel_rfl) (by kernel_rfl)
def sig_path_soft : Sk := { tmps := [tf [CS.sl kItm], tf [ci]], boxes := [], rows := [] }
def osig_path_soft : Sk := { tmps := [tf [CS.bool]], boxes := [], rows := [] }
def C_path_soft_0 (M_path_smooth M_path_next : Fn) : Cfg := { spec := lookS [(102, spOf sig_path_smooth osig_path_smooth M_path_smooth), (139, spOf sig_path_next osig_path_next M_path_next)], eqOk := eqAll, ownOff := ownOff }
def mf_path_soft (M_path_smooth M_path_next : Fn) : Fn := modelF Try.prog (C_path_soft_0 M_path_smooth M_path_next) 64 138 sig_path_soft osig_path_soft
theorem mf_path_soft_eq (M_path_smooth M_path_next : Fn) (x0 : Rw) (x1 : Int) : mf_path_soft M_path_smooth M_path_next [.view kItm x0, I x1] =
 (M_path_next [.view kItm x0, I x1]).bind fun o3 =>
 bif decide (0 <= x1) && decide (x1 < (x0.length : Int)) then
 (M_path_smooth [jA (nth [] x0 x1.toNat) 0, jA (nth [] x0 x1.toNat) 1, jA (nth [] x0 x1.toNat) 2, jA (nth [] x0 x1.toNat) 3, jA (nth [] x0 x1.toNat) 4, jA (nth [] x0 x1.toNat) 5, jA (nth [] x0 x1.toNat) 6, jA (nth [] x0 x1.toNat) 7, jA (nth [] x0 x1.toNat) 8, jA (nth [] x0 x1.toNat) 9, jA (nth [] x0 x1.toNat) 10, jA (nth [] x0 x1.toNat) 11, jA (nth [] x0 x1.toNat) 12, B (bA (nth [] x0 x1.toNat) 13), jA (nth [] x0 x1.toNat) 14, B (bA (nth [] x0 x1.toNat) 15), jA (nth [] x0 x1.toNat) 16, jA (nth [] x0 x1.toNat) 17, jA (nth [] x0 x1.toNat) 18, jA (nth [] x0 x1.toNat) 19, jA (nth [] x0 x1.toNat) 20, B (bA (nth [] x0 x1.toNat) 21)]).bind fun o4 =>
 bif bA o4 0 then
 bif decide (0 <= x1) && decide (x1 < (x0.length : Int)) then
 bif gA (nth [] x0 x1.toNat) 18 != 0 then
 bif decide (gA o3 0 < (x0.length : Int)) then
 bif decide (0 <= gA o3 0) && decide (gA o3 0 < (x0.length : Int)) then
 (M_path_smooth [jA (nth [] x0 (gA o3 0).toNat) 0, jA (nth [] x0 (gA o3 0).toNat) 1, jA (nth [] x0 (gA o3 0).toNat) 2, jA (nth [] x0 (gA o3 0).toNat) 3, jA (nth [] x0 (gA o3 0).toNat) 4, jA (nth [] x0 (gA o3 0).toNat) 5, jA (nth [] x0 (gA o3 0).toNat) 6, jA (nth [] x0 (gA o3 0).toNat) 7, jA (nth [] x0 (gA o3 0).toNat) 8, jA (nth [] x0 (gA o3 0).toNat) 9, jA (nth [] x0 (gA o3 0).toNat) 10, jA (nth [] x0 (gA o3 0).toNat) 11, jA (nth [] x0 (gA o3 0).toNat) 12, B (bA (nth [] x0 (gA o3 0).toNat) 13), jA (nth [] x0 (gA o3 0).toNat) 14, B (bA (nth [] x0 (gA o3 0).toNat) 15), jA (nth [] x0 (gA o3 0).toNat) 16, jA (nth [] x0 (gA o3 0).toNat) 17, jA (nth [] x0 (gA o3 0).toNat) 18, jA (nth [] x0 (gA o3 0).toNat) 19, jA (nth [] x0 (gA o3 0).toNat) 20, B (bA (nth [] x0 (gA o3 0).toNat) 21)]).bind fun o5 =>
 some [B (bA o5 0)]
 else
 none
 else
 some [B false]
 else
 some [B false]
 else
 none
 else
 some [B false]
 else
 none := by kernel_rfl
def m_path_soft := mf_path_soft m_path_smooth m_path_next 
theorem sp_path_soft : SpecOK Try.prog (C_path_soft_0 m_path_smooth m_path_next) := specOK_of rfl ⟨r_path_smooth, r_path_next, trivial⟩
theorem r_path_soft : RowOK Try.prog (138, spOf sig_path_soft osig_path_soft m_path_soft) := row_of (C := (C_path_soft_0 m_path_smooth m_path_next)) (L := 64) (by kernel_rfl) (FnOK.bare rfl rfl rfl) sp_path_soft eqOk mixOk (by kernel_rfl) (by kernel_rfl)
def sig_blend_bend : Sk := { tmps := [TS.v true [ci, ci, ci], TS.v true [ci, ci, ci], TS.v true [ci, ci, ci]], boxes := [], rows := [] }
def osig_blend_bend : Sk := { tmps := [tf [ci]], boxes := [], rows := [] }
def C_blend_bend_0 : Cfg := { spec := lookS [], eqOk := eqAll, ownOff := ownOff, unroll := [3] }
def mf_blend_bend : Fn := modelF Try.prog C_blend_bend_0 64 194 sig_blend_bend osig_blend_bend
theorem mf_blend_bend_eq (x0 x1 x2 x3 x4 x5 x6 x7 x8 : Int) : mf_blend_bend [I x0, I x1, I x2, I x3, I x4, I x5, I x6, I x7, I x8] =
 some [I (IntKind.i64.wrap (IntKind.i64.wrap (IntKind.i64.wrap (0 + IntKind.i64.wrap (IntKind.i64.wrap (IntKind.i64.wrap (x0 + x6) - IntKind.i64.wrap (2 * x3)) * IntKind.i64.wrap (IntKind.i64.wrap (x0 + x6) - IntKind.i64.wrap (2 * x3)))) + IntKind.i64.wrap (IntKind.i64.wrap (IntKind.i64.wrap (x1 + x7) - IntKind.i64.wrap (2 * x4)) * IntKind.i64.wrap (IntKind.i64.wrap (x1 + x7) - IntKind.i64.wrap (2 * x4)))) + IntKind.i64.wrap (IntKind.i64.wrap (IntKind.i64.wrap (x2 + x8) - IntKind.i64.wrap (2 * x5)) * IntKind.i64.wrap (IntKind.i64.wrap (x2 + x8) - IntKind.i64.wrap (2 * x5)))))] := by kernel_rfl
def m_blend_bend := mf_blend_bend 
theorem sp_blend_bend : SpecOK Try.prog (C_blend_bend_0 ) := specOK_of rfl trivial
theorem r_blend_bend : RowOK Try.prog (194, spOf sig_blend_bend osig_blend_bend m_blend_bend) := row_of (C := C_blend_bend_0) (L := 64) (by kernel_rfl) (FnOK.bare rfl rfl rfl) sp_blend_bend eqOk mixOk (by kernel_rfl) (by kernel_rfl)
def sig_blend_Pieces : Sk := { tmps := [TS.v true [ci, ci, ci], TS.v true [ci, ci, ci], TS.v true [ci, ci, ci]], boxes := [], rows := [] }
def osig_blend_Pieces : Sk := { tmps := [tf [ci]], boxes := [], rows := [] }
def C_blend_Pieces_0 (M_blend_bend : Fn) : Cfg := { spec := lookS [(194, spOf sig_blend_bend osig_blend_bend M_blend_bend)], eqOk := eqAll, ownOff := ownOff }
def sk_blend_Pieces_2 : Sk := { tmps := [td, td, td, tf [CS.ptr 3 0], tf [CS.ptr 4 0], tf [CS.ptr 5 0], td, tf [ci]] ++ dd 22, boxes := [(3, 23, [ci, ci, ci]), (4, 23, [ci, ci, ci]), (5, 23, [ci, ci, ci])], rows := [] }
def ex_blend_Pieces_2 : List (Ex × Sk) := [(Ex.exit 0, { tmps := [td, td, td, td, td, td, td, tf [ci]] ++ dd 22, boxes := [], rows := [] })]
def st_blend_Pieces_2 (M_blend_bend : Fn) : Lp := stepL Try.prog (C_blend_Pieces_0 M_blend_bend) 64 2 (bodyOf Try.prog 192 2) sk_blend_Pieces_2 ex_blend_Pieces_2
def C_blend_Pieces_1 (M_blend_bend : Fn) (N2 : Lp) : Cfg := (C_blend_Pieces_0 M_blend_bend).loop 2 sk_blend_Pieces_2 ex_blend_Pieces_2 N2
def mf_blend_Pieces (M_blend_bend : Fn) (N2 : Lp) : Fn := modelF Try.prog (C_blend_Pieces_1 M_blend_bend N2) 64 192 sig_blend_Pieces osig_blend_Pieces
theorem st_blend_Pieces_2_eq (M_blend_bend : Fn) (v0 v1 v2 v3 v4 v5 v6 v7 v8 v9 : Int) : st_blend_Pieces_2 M_blend_bend [I v0, I v1, I v2, I v3, I v4, I v5, I v6, I v7, I v8, I v9] =
 bif decide (v0 < 64) then
 (M_blend_bend [I v1, I v2, I v3, I v4, I v5, I v6, I v7, I v8, I v9]).bind fun o2 =>
 bif decide (gA o2 0 > IntKind.i64.wrap (IntKind.i64.wrap (IntKind.i64.wrap (IntKind.i64.wrap (IntKind.i64.wrap (IntKind.i64.wrap (16 * v0) * v0) * v0) * v0) * 4) * 4)) then
 some (0, [I (IntKind.i64.wrap (v0 * 2)), I v1, I v2, I v3, I v4, I v5, I v6, I v7, I v8, I v9])
 else
 some (1, [I v0])
 else
 some (1, [I v0]) := by kernel_rfl
theorem mf_blend_Pieces_eq (M_blend_bend : Fn) (N2 : Lp) (x0 x1 x2 x3 x4 x5 x6 x7 x8 : Int) : mf_blend_Pieces M_blend_bend N2 [I x0, I x1, I x2, I x3, I x4, I x5, I x6, I x7, I x8] =
 (N2 [I 2, I x0, I x1, I x2, I x3, I x4, I x5, I x6, I x7, I x8]).bind fun o3 =>
 bif o3.1.beq 1 then
 some [jA o3.2 0]
 else
 none := by kernel_rfl
def l_blend_Pieces_2 := loopC (st_blend_Pieces_2 m_blend_bend )
def m_blend_Pieces := mf_blend_Pieces m_blend_bend l_blend_Pieces_2
theorem sp_blend_Pieces : SpecOK Try.prog (C_blend_Pieces_0 m_blend_bend) := specOK_of rfl ⟨r_blend_bend, trivial⟩
theorem r_blend_Pieces : RowOK Try.prog (192, spOf sig_blend_Pieces osig_blend_Pieces m_blend_Pieces) := row_of (C := (C_blend_Pieces_1 m_blend_bend l_blend_Pieces_2)) (L := 64) (by kernel_rfl) ((FnOK.bare rfl rfl rfl).loop sp_blend_Pieces eqOk mixOk (by kernel_rfl) (by kernel_rfl)) sp_blend_Pieces eqOk mixOk (by kernel_rfl) (by kernel_rfl)
def sig_wide_quotient : Sk := { tmps := [TS.v true [CS.int .u64, CS.int .u64], tf [CS.int .u64]], boxes := [], rows := [] }
def osig_wide_quotient : Sk := { tmps := [TS.tup [(true, [CS.int .u64, CS.int .u64]), (false, [CS.bool])]], boxes := [], rows := [] }
def C_wide_quotient_0 (M_bits_Div64 : Fn) : Cfg := { spec := lookS [(144, spOf sig_bits_Div64 osig_bits_Div64 M_bits_Div64)], eqOk := eqAll, ownOff := ownOff }
def mf_wide_quotient (M_bits_Div64 : Fn) : Fn := modelF Try.prog (C_wide_quotient_0 M_bits_Div64) 64 184 sig_wide_quotient osig_wide_quotient
theorem mf_wide_quotient_eq (M_bits_Div64 : Fn) (x0 x1 x2 : Int) : mf_wide_quotient M_bits_Div64 [U x0, U x1, U x2] =
 (M_bits_Div64 [U 0, U x0, U x2]).bind fun o2 =>
 (M_bits_Div64 [U (gA o2 1), U x1, U x2]).bind fun o3 =>
 some [U (gA o2 0), U (gA o3 0), B (decide (gA o3 1 > 0))] := by kernel_rfl
def m_wide_quotient := mf_wide_quotient m_bits_Div64 
theorem sp_wide_quotient : SpecOK Try.prog (C_wide_quotient_0 m_bits_Div64) := specOK_of rfl ⟨r_bits_Div64, trivial⟩
theorem r_wide_quotient : RowOK Try.prog (184, spOf sig_wide_quotient osig_wide_quotient m_wide_quotient) := row_of (C := (C_wide_quotient_0 m_bits_Div64)) (L := 64) (by kernel_rfl) (FnOK.bare rfl rfl rfl) sp_wide_quotient eqOk mixOk (by kernel_rfl) (by kernel_rfl)
def sig_wide_Over : Sk := { tmps := [tf [ci], tf [ci], tf [ci], tf [ci]], boxes := [], rows := [] }
def osig_wide_Over : Sk := { tmps := [TS.tup [(false, [ci]), (false, [CS.bool])]], boxes := [], rows := [] }
def C_wide_Over_0 (M_wide_signed M_wide_grows M_wide_sign M_wide_floorRoot M_wide_quotient M_wide_product M_wide_known M_wide_size : Fn) : Cfg := { spec := lookS [(146, spOf sig_wide_signed osig_wide_signed M_wide_signed), (145, spOf sig_wide_grows osig_wide_grows M_wide_grows), (104, spOf sig_wide_sign osig_wide_sign M_wide_sign), (172, spOf sig_wide_floorRoot osig_wide_floorRoot M_wide_floorRoot), (184, spOf sig_wide_quotient osig_wide_quotient M_wide_quotient), (106, spOf sig_wide_product osig_wide_product M_wide_product), (143, spOf sig_wide_known osig_wide_known M_wide_known), (107, spOf sig_wide_size osig_wide_size M_wide_size)], eqOk := eqAll, ownOff := ownOff }
def mf_wide_Over (M_wide_signed M_wide_grows M_wide_sign M_wide_floorRoot M_wide_quotient M_wide_product M_wide_known M_wide_size : Fn) : Fn := modelF Try.prog (C_wide_Over_0 M_wide_signed M_wide_grows M_wide_sign M_wide_floorRoot M_wide_quotient M_wide_product M_wide_known M_wide_size) 64 175 sig_wide_Over osig_wide_Over
abbrev g_wide_Over_1 (M_wide_grows : Fn) (x3 : Int) (M_wide_signed : Fn) (o42 : List AC) (h1_0 : Bool) (h1_1 h1_2 h1_3 h1_4 : AC) : Option (List AC) :=
 bif h1_0 then
 (M_wide_grows [I x3, h1_1, B true, h1_2]).bind fun o44 =>
 bif bA o44 0 then
 (M_wide_signed [U (IntKind.u64.wrap (IntKind.u64.wrap ((gA o42 0).tdiv 2) + 1)), h1_2]).bind fun o45 =>
 some [jA o45 0, B (bA o45 1)]
 else
 (M_wide_signed [U (IntKind.u64.wrap ((gA o42 0).tdiv 2)), h1_2]).bind fun o46 =>
 some [jA o46 0, B (bA o46 1)]
 else
 (M_wide_grows [I x3, h1_3, h1_4, h1_2]).bind fun o47 =>
 bif bA o47 0 then
 (M_wide_signed [U (IntKind.u64.wrap (IntKind.u64.wrap ((gA o42 0).tdiv 2) + 1)), h1_2]).bind fun o48 =>
 some [jA o48 0, B (bA o48 1)]
 else
 (M_wide_signed [U (IntKind.u64.wrap ((gA o42 0).tdiv 2)), h1_2]).bind fun o49 =>
 some [jA o49 0, B (bA o49 1)]
attribute [go_sem] g_wide_Over_1
theorem mf_wide_Over_eq (M_wide_signed M_wide_grows M_wide_sign M_wide_floorRoot M_wide_quotient M_wide_product M_wide_known M_wide_size : Fn) (x0 x1 x2 x3 : Int) : mf_wide_Over M_wide_signed M_wide_grows M_wide_sign M_wide_floorRoot M_wide_quotient M_wide_product M_wide_known M_wide_size [I x0, I x1, I x2, I x3] =
 (M_wide_size [I x0]).bind fun o35 =>
 bif decide (gA o35 0 > 2147483648) then
 some [I 0, B false]
 else
 (M_wide_size [I x1]).bind fun o36 =>
 bif decide (gA o36 0 > 2147483648) then
 some [I 0, B false]
 else
 bif decide (x2 < 1) then
 some [I 0, B false]
 else
 bif decide (x2 > 4611686018427387904) then
 some [I 0, B false]
 else
 (M_wide_known [I x3]).bind fun o37 =>
 bif !bA o37 0 then
 some [I 0, B false]
 else
 (M_wide_size [I x0]).bind fun o38 =>
 (M_wide_size [I x1]).bind fun o39 =>
 (M_wide_product [U (IntKind.u64.wrap (2 * IntKind.u64.wrap (gA o38 0 * gA o39 0))), U (IntKind.u64.wrap (2 * IntKind.u64.wrap (gA o38 0 * gA o39 0)))]).bind fun o40 =>
 (M_wide_quotient [U (gA o40 0), U (gA o40 1), U (IntKind.u64.wrap x2)]).bind fun o41 =>
 (M_wide_floorRoot [U (gA o41 0), U (gA o41 1)]).bind fun o42 =>
 bif bA o41 2 then
 (M_wide_sign [I x0, I x1]).bind fun o43 =>
 g_wide_Over_1 M_wide_grows x3 M_wide_signed o42 ((gA o42 0).tmod 2 == 1) (I 1) (B (decide (gA o43 0 < 0))) (I (-1)) (B true)
 else
 (M_wide_product [U (gA o42 0), U (gA o42 0)]).bind fun o50 =>
 (M_wide_sign [I x0, I x1]).bind fun o51 =>
 bif (gA o42 0).tmod 2 == 1 then
 bif !(gA o50 0 == gA o41 0 && (gA o50 1 == gA o41 1 && true)) then
 g_wide_Over_1 M_wide_grows x3 M_wide_signed o42 (!(gA o50 0 == gA o41 0 && (gA o50 1 == gA o41 1 && true))) (I 1) (B (decide (gA o51 0 < 0))) (I 1) (B ((gA o42 0).tmod 2 == 1))
 else
 g_wide_Over_1 M_wide_grows x3 M_wide_signed o42 (!(gA o50 0 == gA o41 0 && (gA o50 1 == gA o41 1 && true))) (I 0) (B (decide (gA o51 0 < 0))) (I 0) (B ((gA o42 0).tmod 2 == 1))
 else
 g_wide_Over_1 M_wide_grows x3 M_wide_signed o42 (!(gA o50 0 == gA o41 0 && (gA o50 1 == gA o41 1 && true))) (I (-1)) (B (decide (gA o51 0 < 0))) (I (-1)) (B ((gA o42 0).tmod 2 == 1)) := by kernel_rfl
def m_wide_Over := mf_wide_Over m_wide_signed m_wide_grows m_wide_sign m_wide_floorRoot m_wide_quotient m_wide_product m_wide_known m_wide_size 
theorem sp_wide_Over : SpecOK Try.prog (C_wide_Over_0 m_wide_signed m_wide_grows m_wide_sign m_wide_floorRoot m_wide_quotient m_wide_product m_wide_known m_wide_size) := specOK_of rfl ⟨r_wide_signed, r_wide_grows, r_wide_sign, r_wide_floorRoot, r_wide_quotient, r_wide_product, r_wide_known, r_wide_size, trivial⟩
theorem r_wide_Over : RowOK Try.prog (175, spOf sig_wide_Over osig_wide_Over m_wide_Over) := row_of (C := (C_wide_Over_0 m_wide_signed m_wide_grows m_wide_sign m_wide_floorRoot m_wide_quotient m_wide_product m_wide_known m_wide_size)) (L := 64) (by kernel_rfl) (FnOK.bare rfl rfl rfl) sp_wide_Over eqOk mixOk (by kernel_rfl) (by kernel_rfl)
def sig_blend_Toward : Sk := { tmps := [TS.v true [ci, ci, ci], TS.v true [ci, ci, ci], tf [ci]], boxes := [], rows := [] }
def osig_blend_Toward : Sk := { tmps := [TS.tup [(true, [ci, ci, ci]), (false, [CS.bool])]], boxes := [], rows := [] }
def C_blend_Toward_0 (M_wide_Over : Fn) : Cfg := { spec := lookS [(175, spOf sig_wide_Over osig_wide_Over M_wide_Over)], eqOk := eqAll, ownOff := ownOff, unroll := [5, 10] }
def mf_blend_Toward (M_wide_Over : Fn) : Fn := modelF Try.prog (C_blend_Toward_0 M_wide_Over) 64 191 sig_blend_Toward osig_blend_Toward
theorem mf_blend_Toward_eq (M_wide_Over : Fn) (x0 x1 x2 x3 x4 x5 x6 : Int) : mf_blend_Toward M_wide_Over [I x0, I x1, I x2, I x3, I x4, I x5, I x6] =
 bif x3 == x0 && (x4 == x1 && (x5 == x2 && true)) then
 some [I 0, I 0, I 0, B false]
 else
 bif decide (x6 < 0) then
 some [I 0, I 0, I 0, B false]
 else
 bif decide (x6 > 33554432) then
 some [I 0, I 0, I 0, B false]
 else
 (M_wide_Over [I (IntKind.i64.wrap (x3 - x0)), I x6, I (IntKind.i64.wrap (IntKind.i64.wrap (IntKind.i64.wrap (0 + IntKind.i64.wrap (IntKind.i64.wrap (x3 - x0) * IntKind.i64.wrap (x3 - x0))) + IntKind.i64.wrap (IntKind.i64.wrap (x4 - x1) * IntKind.i64.wrap (x4 - x1))) + IntKind.i64.wrap (IntKind.i64.wrap (x5 - x2) * IntKind.i64.wrap (x5 - x2)))), I 2]).bind fun o3 =>
 (M_wide_Over [I (IntKind.i64.wrap (x4 - x1)), I x6, I (IntKind.i64.wrap (IntKind.i64.wrap (IntKind.i64.wrap (0 + IntKind.i64.wrap (IntKind.i64.wrap (x3 - x0) * IntKind.i64.wrap (x3 - x0))) + IntKind.i64.wrap (IntKind.i64.wrap (x4 - x1) * IntKind.i64.wrap (x4 - x1))) + IntKind.i64.wrap (IntKind.i64.wrap (x5 - x2) * IntKind.i64.wrap (x5 - x2)))), I 2]).bind fun o4 =>
 (M_wide_Over [I (IntKind.i64.wrap (x5 - x2)), I x6, I (IntKind.i64.wrap (IntKind.i64.wrap (IntKind.i64.wrap (0 + IntKind.i64.wrap (IntKind.i64.wrap (x3 - x0) * IntKind.i64.wrap (x3 - x0))) + IntKind.i64.wrap (IntKind.i64.wrap (x4 - x1) * IntKind.i64.wrap (x4 - x1))) + IntKind.i64.wrap (IntKind.i64.wrap (x5 - x2) * IntKind.i64.wrap (x5 - x2)))), I 2]).bind fun o5 =>
 some [I (IntKind.i64.wrap (x0 + gA o3 0)), I (IntKind.i64.wrap (x1 + gA o4 0)), I (IntKind.i64.wrap (x2 + gA o5 0)), B true] := by kernel_rfl
def m_blend_Toward := mf_blend_Toward m_wide_Over 
theorem sp_blend_Toward : SpecOK Try.prog (C_blend_Toward_0 m_wide_Over) := specOK_of rfl ⟨r_wide_Over, trivial⟩
theorem r_blend_Toward : RowOK Try.prog (191, spOf sig_blend_Toward osig_blend_Toward m_blend_Toward) := row_of (C := (C_blend_Toward_0 m_wide_Over)) (L := 64) (by kernel_rfl) (FnOK.bare rfl rfl rfl) sp_blend_Toward eqOk mixOk (by kernel_rfl) (by kernel_rfl)
def sig_blend_Reach : Sk := { tmps := [TS.v true [ci, ci, ci], TS.v true [ci, ci, ci], TS.v true [ci, ci, ci], tf [ci]], boxes := [], rows := [] }
def osig_blend_Reach : Sk := { tmps := [tf [ci]], boxes := [], rows := [] }
def C_blend_Reach_0 (M_blend_bend M_blend_Toward M_curve_Length : Fn) : Cfg := { spec := lookS [(194, spOf sig_blend_bend osig_blend_bend M_blend_bend), (191, spOf sig_blend_Toward osig_blend_Toward M_blend_Toward), (177, spOf sig_curve_Length osig_curve_Length M_curve_Length)], eqOk := eqAll, ownOff := ownOff }
def sk_blend_Reach_6 : Sk := { tmps := [td, td, td, tf [ci], tf [CS.ptr 4 0], tf [CS.ptr 5 0], tf [CS.ptr 6 0], td, td, tf [ci], tf [ci], tf [ci]] ++ dd 62, boxes := [(4, 23, [ci, ci, ci]), (5, 23, [ci, ci, ci]), (6, 23, [ci, ci, ci])], rows := [] }
def ex_blend_Reach_6 : List (Ex × Sk) := [(Ex.exit 0, { tmps := [td, td, td, td, td, td, td, td, td, td, tf [ci]] ++ dd 63, boxes := [], rows := [] })]
def st_blend_Reach_6 (M_blend_bend M_blend_Toward M_curve_Length : Fn) : Lp := stepL Try.prog (C_blend_Reach_0 M_blend_bend M_blend_Toward M_curve_Length) 64 6 (bodyOf Try.prog 190 6) sk_blend_Reach_6 ex_blend_Reach_6
def C_blend_Reach_1 (M_blend_bend M_blend_Toward M_curve_Length : Fn) (N6 : Lp) : Cfg := (C_blend_Reach_0 M_blend_bend M_blend_Toward M_curve_Length).loop 6 sk_blend_Reach_6 ex_blend_Reach_6 N6
def mf_blend_Reach (M_blend_bend M_blend_Toward M_curve_Length : Fn) (N6 : Lp) : Fn := modelF Try.prog (C_blend_Reach_1 M_blend_bend M_blend_Toward M_curve_Length N6) 64 190 sig_blend_Reach osig_blend_Reach
theorem st_blend_Reach_6_eq (M_blend_bend M_blend_Toward M_curve_Length : Fn) (v0 v1 v2 v3 v4 v5 v6 v7 v8 v9 v10 v11 v12 : Int) : st_blend_Reach_6 M_blend_bend M_blend_Toward M_curve_Length [I v0, I v1, I v2, I v3, I v4, I v5, I v6, I v7, I v8, I v9, I v10, I v11, I v12] =
 bif decide (v3 > 0) then
 bif decide (IntKind.i64.wrap (v2 + v3) > v1) then
 some (0, [I v0, I v1, I v2, I (v3.fdiv (2 ^ min (Int.toNat 1) IntKind.i64.bits)), I v4, I v5, I v6, I v7, I v8, I v9, I v10, I v11, I v12])
 else
 (M_blend_Toward [I v7, I v8, I v9, I v4, I v5, I v6, I (IntKind.i64.wrap (v2 + v3))]).bind fun o8 =>
 (M_blend_Toward [I v7, I v8, I v9, I v10, I v11, I v12, I (IntKind.i64.wrap (v2 + v3))]).bind fun o9 =>
 (M_blend_bend [jA o8 0, jA o8 1, jA o8 2, I v7, I v8, I v9, jA o9 0, jA o9 1, jA o9 2]).bind fun o10 =>
 bif decide (gA o10 0 <= IntKind.i64.wrap (IntKind.i64.wrap (16 * v0) * v0)) then
 some (0, [I v0, I v1, I (IntKind.i64.wrap (v2 + v3)), I (v3.fdiv (2 ^ min (Int.toNat 1) IntKind.i64.bits)), I v4, I v5, I v6, I v7, I v8, I v9, I v10, I v11, I v12])
 else
 some (0, [I v0, I v1, I v2, I (v3.fdiv (2 ^ min (Int.toNat 1) IntKind.i64.bits)), I v4, I v5, I v6, I v7, I v8, I v9, I v10, I v11, I v12])
 else
 some (1, [I v2]) := by kernel_rfl
theorem mf_blend_Reach_eq (M_blend_bend M_blend_Toward M_curve_Length : Fn) (N6 : Lp) (x0 x1 x2 x3 x4 x5 x6 x7 x8 x9 : Int) : mf_blend_Reach M_blend_bend M_blend_Toward M_curve_Length N6 [I x0, I x1, I x2, I x3, I x4, I x5, I x6, I x7, I x8, I x9] =
 bif x0 == x3 && (x1 == x4 && (x2 == x5 && true)) then
 some [I 0]
 else
 bif x6 == x3 && (x7 == x4 && (x8 == x5 && true)) then
 some [I 0]
 else
 (M_curve_Length [I x0, I x1, I x2, I x3, I x4, I x5]).bind fun o11 =>
 (M_curve_Length [I x3, I x4, I x5, I x6, I x7, I x8]).bind fun o12 =>
 (N6 [I x9, I (IntKind.i64.wrap (mn (gA o11 0) (gA o12 0) - 2)), I 0, I 16777216, I x0, I x1, I x2, I x3, I x4, I x5, I x6, I x7, I x8]).bind fun o13 =>
 bif o13.1.beq 1 then
 bif decide (gA o13.2 0 < 16) then
 some [I 0]
 else
 some [jA o13.2 0]
 else
 none := by kernel_rfl
def l_blend_Reach_6 := loopC (st_blend_Reach_6 m_blend_bend m_blend_Toward m_curve_Length )
def m_blend_Reach := mf_blend_Reach m_blend_bend m_blend_Toward m_curve_Length l_blend_Reach_6
theorem sp_blend_Reach : SpecOK Try.prog (C_blend_Reach_0 m_blend_bend m_blend_Toward m_curve_Length) := specOK_of rfl ⟨r_blend_bend, r_blend_Toward, r_curve_Length, trivial⟩
theorem r_blend_Reach : RowOK Try.prog (190, spOf sig_blend_Reach osig_blend_Reach m_blend_Reach) := row_of (C := (C_blend_Reach_1 m_blend_bend m_blend_Toward m_curve_Length l_blend_Reach_6)) (L := 64) (by kernel_rfl) ((FnOK.bare rfl rfl rfl).loop sp_blend_Reach eqOk mixOk (by kernel_rfl) (by kernel_rfl)) sp_blend_Reach eqOk mixOk (by kernel_rfl) (by kernel_rfl)
def sig_blend_Corner : Sk := { tmps := [TS.v true [ci, ci, ci], TS.v true [ci, ci, ci], TS.v true [ci, ci, ci], tf [ci]], boxes := [], rows := [] }
def osig_blend_Corner : Sk := { tmps := [tf [CS.sl kPt]], boxes := [], rows := [] }
def C_blend_Corner_0 (M_wide_MulDiv M_blend_Pieces M_blend_Toward M_blend_Reach : Fn) : Cfg := { spec := lookS [(98, spOf sig_wide_MulDiv osig_wide_MulDiv M_wide_MulDiv), (192, spOf sig_blend_Pieces osig_blend_Pieces M_blend_Pieces), (191, spOf sig_blend_Toward osig_blend_Toward M_blend_Toward), (190, spOf sig_blend_Reach osig_blend_Reach M_blend_Reach)], eqOk := eqAll, ownOff := ownOff, unroll := [13] }
def sk_blend_Corner_9 : Sk := { tmps := [td, td, td, td, td, tf [CS.ptr 5 0], td, td, td, td, tf [CS.ptr 10 0], td, tf [CS.ptr 12 0], td, tf [ci], tf [CS.own 50 3], td, td, td, td, td, td, td, td, td, td, td, td, td, td, td, td, td, td, td, td, td, td, td, td, td, td, td, td, td, td, td, td, td, td, td, td, tf [ci], tf [ci]] ++ dd 57, boxes := [(5, 23, [ci, ci, ci]), (10, 23, [ci, ci, ci]), (12, 23, [ci, ci, ci])], rows := [(50, 23, kPt)] }
def ex_blend_Corner_9 : List (Ex × Sk) := [(Ex.exit 0, { tmps := [td, td, td, td, td, td, td, td, td, td, td, td, td, td, td, tf [CS.own 50 3]] ++ dd 95, boxes := [], rows := [(50, 23, kPt)] })]
def st_blend_Corner_9 (M_wide_MulDiv M_blend_Pieces M_blend_Toward M_blend_Reach : Fn) : Lp := stepL Try.prog (C_blend_Corner_0 M_wide_MulDiv M_blend_Pieces M_blend_Toward M_blend_Reach) 64 9 (bodyOf Try.prog 185 9) sk_blend_Corner_9 ex_blend_Corner_9
def C_blend_Corner_1 (M_wide_MulDiv M_blend_Pieces M_blend_Toward M_blend_Reach : Fn) (N9 : Lp) : Cfg := (C_blend_Corner_0 M_wide_MulDiv M_blend_Pieces M_blend_Toward M_blend_Reach).loop 9 sk_blend_Corner_9 ex_blend_Corner_9 N9
def mf_blend_Corner (M_wide_MulDiv M_blend_Pieces M_blend_Toward M_blend_Reach : Fn) (N9 : Lp) : Fn := modelF Try.prog (C_blend_Corner_1 M_wide_MulDiv M_blend_Pieces M_blend_Toward M_blend_Reach N9) 64 185 sig_blend_Corner osig_blend_Corner
theorem st_blend_Corner_9_eq (M_wide_MulDiv M_blend_Pieces M_blend_Toward M_blend_Reach : Fn) (v0 : Rw) (v1 v2 v3 v4 v5 v6 v7 v8 v9 v10 v11 v12 : Int) : st_blend_Corner_9 M_wide_MulDiv M_blend_Pieces M_blend_Toward M_blend_Reach [.view kPt v0, I v1, I v2, I v3, I v4, I v5, I v6, I v7, I v8, I v9, I v10, I v11, I v12] =
 bif decide (v3 < v2) then
 bif decide (0 <= v3) && decide (v3 < (v0.length : Int)) then
 (M_wide_MulDiv [I (IntKind.i64.wrap (IntKind.i64.wrap (IntKind.i64.wrap (IntKind.i64.wrap (v1 - v3) * IntKind.i64.wrap (v1 - v3)) * IntKind.i64.wrap (v7 - v4)) + IntKind.i64.wrap (IntKind.i64.wrap (v3 * v3) * IntKind.i64.wrap (v10 - v4)))), I 1, I (IntKind.i64.wrap (v1 * v1)), I 2]).bind fun o12 =>
 bif decide (0 <= v3) && decide (v3 < (v0.length : Int)) then
 bif decide (0 <= v3) && decide (v3 < (v0.length : Int)) then
 (M_wide_MulDiv [I (IntKind.i64.wrap (IntKind.i64.wrap (IntKind.i64.wrap (IntKind.i64.wrap (v1 - v3) * IntKind.i64.wrap (v1 - v3)) * IntKind.i64.wrap (v8 - v5)) + IntKind.i64.wrap (IntKind.i64.wrap (v3 * v3) * IntKind.i64.wrap (v11 - v5)))), I 1, I (IntKind.i64.wrap (v1 * v1)), I 2]).bind fun o13 =>
 bif decide (0 <= v3) && decide (v3 < (v0.length : Int)) then
 bif decide (0 <= v3) && decide (v3 < (v0.length : Int)) then
 (M_wide_MulDiv [I (IntKind.i64.wrap (IntKind.i64.wrap (IntKind.i64.wrap (IntKind.i64.wrap (v1 - v3) * IntKind.i64.wrap (v1 - v3)) * IntKind.i64.wrap (v9 - v6)) + IntKind.i64.wrap (IntKind.i64.wrap (v3 * v3) * IntKind.i64.wrap (v12 - v6)))), I 1, I (IntKind.i64.wrap (v1 * v1)), I 2]).bind fun o14 =>
 bif decide (0 <= v3) && decide (v3 < (v0.length : Int)) then
 bif decide (0 <= v3) && decide (v3 < (v0.length : Int)) then
 some (0, [.view kPt ((((v0.set v3.toNat [I v4, I v5, I v6]).set v3.toNat [I (IntKind.i64.wrap (intOf (nth .dead (nth [] (v0.set v3.toNat [I v4, I v5, I v6]) v3.toNat) 0) + gA o12 0)), I (intOf (nth .dead (nth [] (v0.set v3.toNat [I v4, I v5, I v6]) v3.toNat) 1)), I (intOf (nth .dead (nth [] (v0.set v3.toNat [I v4, I v5, I v6]) v3.toNat) 2))]).set v3.toNat [I (intOf (nth .dead (nth [] ((v0.set v3.toNat [I v4, I v5, I v6]).set v3.toNat [I (IntKind.i64.wrap (intOf (nth .dead (nth [] (v0.set v3.toNat [I v4, I v5, I v6]) v3.toNat) 0) + gA o12 0)), I (intOf (nth .dead (nth [] (v0.set v3.toNat [I v4, I v5, I v6]) v3.toNat) 1)), I (intOf (nth .dead (nth [] (v0.set v3.toNat [I v4, I v5, I v6]) v3.toNat) 2))]) v3.toNat) 0)), I (IntKind.i64.wrap (intOf (nth .dead (nth [] ((v0.set v3.toNat [I v4, I v5, I v6]).set v3.toNat [I (IntKind.i64.wrap (intOf (nth .dead (nth [] (v0.set v3.toNat [I v4, I v5, I v6]) v3.toNat) 0) + gA o12 0)), I (intOf (nth .dead (nth [] (v0.set v3.toNat [I v4, I v5, I v6]) v3.toNat) 1)), I (intOf (nth .dead (nth [] (v0.set v3.toNat [I v4, I v5, I v6]) v3.toNat) 2))]) v3.toNat) 1) + gA o13 0)), I (intOf (nth .dead (nth [] ((v0.set v3.toNat [I v4, I v5, I v6]).set v3.toNat [I (IntKind.i64.wrap (intOf (nth .dead (nth [] (v0.set v3.toNat [I v4, I v5, I v6]) v3.toNat) 0) + gA o12 0)), I (intOf (nth .dead (nth [] (v0.set v3.toNat [I v4, I v5, I v6]) v3.toNat) 1)), I (intOf (nth .dead (nth [] (v0.set v3.toNat [I v4, I v5, I v6]) v3.toNat) 2))]) v3.toNat) 2))]).set v3.toNat [I (intOf (nth .dead (nth [] (((v0.set v3.toNat [I v4, I v5, I v6]).set v3.toNat [I (IntKind.i64.wrap (intOf (nth .dead (nth [] (v0.set v3.toNat [I v4, I v5, I v6]) v3.toNat) 0) + gA o12 0)), I (intOf (nth .dead (nth [] (v0.set v3.toNat [I v4, I v5, I v6]) v3.toNat) 1)), I (intOf (nth .dead (nth [] (v0.set v3.toNat [I v4, I v5, I v6]) v3.toNat) 2))]).set v3.toNat [I (intOf (nth .dead (nth [] ((v0.set v3.toNat [I v4, I v5, I v6]).set v3.toNat [I (IntKind.i64.wrap (intOf (nth .dead (nth [] (v0.set v3.toNat [I v4, I v5, I v6]) v3.toNat) 0) + gA o12 0)), I (intOf (nth .dead (nth [] (v0.set v3.toNat [I v4, I v5, I v6]) v3.toNat) 1)), I (intOf (nth .dead (nth [] (v0.set v3.toNat [I v4, I v5, I v6]) v3.toNat) 2))]) v3.toNat) 0)), I (IntKind.i64.wrap (intOf (nth .dead (nth [] ((v0.set v3.toNat [I v4, I v5, I v6]).set v3.toNat [I (IntKind.i64.wrap (intOf (nth .dead (nth [] (v0.set v3.toNat [I v4, I v5, I v6]) v3.toNat) 0) + gA o12 0)), I (intOf (nth .dead (nth [] (v0.set v3.toNat [I v4, I v5, I v6]) v3.toNat) 1)), I (intOf (nth .dead (nth [] (v0.set v3.toNat [I v4, I v5, I v6]) v3.toNat) 2))]) v3.toNat) 1) + gA o13 0)), I (intOf (nth .dead (nth [] ((v0.set v3.toNat [I v4, I v5, I v6]).set v3.toNat [I (IntKind.i64.wrap (intOf (nth .dead (nth [] (v0.set v3.toNat [I v4, I v5, I v6]) v3.toNat) 0) + gA o12 0)), I (intOf (nth .dead (nth [] (v0.set v3.toNat [I v4, I v5, I v6]) v3.toNat) 1)), I (intOf (nth .dead (nth [] (v0.set v3.toNat [I v4, I v5, I v6]) v3.toNat) 2))]) v3.toNat) 2))]) v3.toNat) 0)), I (intOf (nth .dead (nth [] (((v0.set v3.toNat [I v4, I v5, I v6]).set v3.toNat [I (IntKind.i64.wrap (intOf (nth .dead (nth [] (v0.set v3.toNat [I v4, I v5, I v6]) v3.toNat) 0) + gA o12 0)), I (intOf (nth .dead (nth [] (v0.set v3.toNat [I v4, I v5, I v6]) v3.toNat) 1)), I (intOf (nth .dead (nth [] (v0.set v3.toNat [I v4, I v5, I v6]) v3.toNat) 2))]).set v3.toNat [I (intOf (nth .dead (nth [] ((v0.set v3.toNat [I v4, I v5, I v6]).set v3.toNat [I (IntKind.i64.wrap (intOf (nth .dead (nth [] (v0.set v3.toNat [I v4, I v5, I v6]) v3.toNat) 0) + gA o12 0)), I (intOf (nth .dead (nth [] (v0.set v3.toNat [I v4, I v5, I v6]) v3.toNat) 1)), I (intOf (nth .dead (nth [] (v0.set v3.toNat [I v4, I v5, I v6]) v3.toNat) 2))]) v3.toNat) 0)), I (IntKind.i64.wrap (intOf (nth .dead (nth [] ((v0.set v3.toNat [I v4, I v5, I v6]).set v3.toNat [I (IntKind.i64.wrap (intOf (nth .dead (nth [] (v0.set v3.toNat [I v4, I v5, I v6]) v3.toNat) 0) + gA o12 0)), I (intOf (nth .dead (nth [] (v0.set v3.toNat [I v4, I v5, I v6]) v3.toNat) 1)), I (intOf (nth .dead (nth [] (v0.set v3.toNat [I v4, I v5, I v6]) v3.toNat) 2))]) v3.toNat) 1) + gA o13 0)), I (intOf (nth .dead (nth [] ((v0.set v3.toNat [I v4, I v5, I v6]).set v3.toNat [I (IntKind.i64.wrap (intOf (nth .dead (nth [] (v0.set v3.toNat [I v4, I v5, I v6]) v3.toNat) 0) + gA o12 0)), I (intOf (nth .dead (nth [] (v0.set v3.toNat [I v4, I v5, I v6]) v3.toNat) 1)), I (intOf (nth .dead (nth [] (v0.set v3.toNat [I v4, I v5, I v6]) v3.toNat) 2))]) v3.toNat) 2))]) v3.toNat) 1)), I (IntKind.i64.wrap (intOf (nth .dead (nth [] (((v0.set v3.toNat [I v4, I v5, I v6]).set v3.toNat [I (IntKind.i64.wrap (intOf (nth .dead (nth [] (v0.set v3.toNat [I v4, I v5, I v6]) v3.toNat) 0) + gA o12 0)), I (intOf (nth .dead (nth [] (v0.set v3.toNat [I v4, I v5, I v6]) v3.toNat) 1)), I (intOf (nth .dead (nth [] (v0.set v3.toNat [I v4, I v5, I v6]) v3.toNat) 2))]).set v3.toNat [I (intOf (nth .dead (nth [] ((v0.set v3.toNat [I v4, I v5, I v6]).set v3.toNat [I (IntKind.i64.wrap (intOf (nth .dead (nth [] (v0.set v3.toNat [I v4, I v5, I v6]) v3.toNat) 0) + gA o12 0)), I (intOf (nth .dead (nth [] (v0.set v3.toNat [I v4, I v5, I v6]) v3.toNat) 1)), I (intOf (nth .dead (nth [] (v0.set v3.toNat [I v4, I v5, I v6]) v3.toNat) 2))]) v3.toNat) 0)), I (IntKind.i64.wrap (intOf (nth .dead (nth [] ((v0.set v3.toNat [I v4, I v5, I v6]).set v3.toNat [I (IntKind.i64.wrap (intOf (nth .dead (nth [] (v0.set v3.toNat [I v4, I v5, I v6]) v3.toNat) 0) + gA o12 0)), I (intOf (nth .dead (nth [] (v0.set v3.toNat [I v4, I v5, I v6]) v3.toNat) 1)), I (intOf (nth .dead (nth [] (v0.set v3.toNat [I v4, I v5, I v6]) v3.toNat) 2))]) v3.toNat) 1) + gA o13 0)), I (intOf (nth .dead (nth [] ((v0.set v3.toNat [I v4, I v5, I v6]).set v3.toNat [I (IntKind.i64.wrap (intOf (nth .dead (nth [] (v0.set v3.toNat [I v4, I v5, I v6]) v3.toNat) 0) + gA o12 0)), I (intOf (nth .dead (nth [] (v0.set v3.toNat [I v4, I v5, I v6]) v3.toNat) 1)), I (intOf (nth .dead (nth [] (v0.set v3.toNat [I v4, I v5, I v6]) v3.toNat) 2))]) v3.toNat) 2))]) v3.toNat) 2) + gA o14 0))]), I v1, I v2, I (IntKind.i64.wrap (v3 + 1)), I v4, I v5, I v6, I v7, I v8, I v9, I v10, I v11, I v12])
 else
 none
 else
 none
 else
 none
 else
 none
 else
 none
 else
 none
 else
 none
 else
 some (1, [.view kPt v0]) := by kernel_rfl
theorem mf_blend_Corner_eq (M_wide_MulDiv M_blend_Pieces M_blend_Toward M_blend_Reach : Fn) (N9 : Lp) (x0 x1 x2 x3 x4 x5 x6 x7 x8 x9 : Int) : mf_blend_Corner M_wide_MulDiv M_blend_Pieces M_blend_Toward M_blend_Reach N9 [I x0, I x1, I x2, I x3, I x4, I x5, I x6, I x7, I x8, I x9] =
 (M_blend_Reach [I x0, I x1, I x2, I x3, I x4, I x5, I x6, I x7, I x8, I x9]).bind fun o15 =>
 bif gA o15 0 == 0 then
 some [.view kPt [[I x3, I x4, I x5]]]
 else
 (M_blend_Toward [I x3, I x4, I x5, I x0, I x1, I x2, jA o15 0]).bind fun o16 =>
 (M_blend_Toward [I x3, I x4, I x5, I x6, I x7, I x8, jA o15 0]).bind fun o17 =>
 (M_blend_Pieces [jA o16 0, jA o16 1, jA o16 2, I x3, I x4, I x5, jA o17 0, jA o17 1, jA o17 2]).bind fun o18 =>
 bif decide (IntKind.i64.wrap (gA o18 0 + 1) = IntKind.i64.wrap (gA o18 0 + 1)) then
 bif decide (0 <= IntKind.i64.wrap (gA o18 0 + 1)) && decide (IntKind.i64.wrap (gA o18 0 + 1) * (↑24 : Int) <= 140737488355328) then
 (N9 [.view kPt (List.replicate (IntKind.i64.wrap (gA o18 0 + 1)).toNat [I 0, I 0, I 0]), jA o18 0, I (↑(List.replicate (IntKind.i64.wrap (gA o18 0 + 1)).toNat [I 0, I 0, I 0]).length : Int), I 0, I x3, I x4, I x5, jA o16 0, jA o16 1, jA o16 2, jA o17 0, jA o17 1, jA o17 2]).bind fun o19 =>
 bif o19.1.beq 1 then
 some [.view kPt (wA o19.2 0)]
 else
 none
 else
 none
 else
 none := by kernel_rfl
def l_blend_Corner_9 := loopC (st_blend_Corner_9 m_wide_MulDiv m_blend_Pieces m_blend_Toward m_blend_Reach )
def m_blend_Corner := mf_blend_Corner m_wide_MulDiv m_blend_Pieces m_blend_Toward m_blend_Reach l_blend_Corner_9
theorem sp_blend_Corner : SpecOK Try.prog (C_blend_Corner_0 m_wide_MulDiv m_blend_Pieces m_blend_Toward m_blend_Reach) := specOK_of rfl ⟨r_wide_MulDiv, r_blend_Pieces, r_blend_Toward, r_blend_Reach, trivial⟩
theorem r_blend_Corner : RowOK Try.prog (185, spOf sig_blend_Corner osig_blend_Corner m_blend_Corner) := row_of (C := (C_blend_Corner_1 m_wide_MulDiv m_blend_Pieces m_blend_Toward m_blend_Reach l_blend_Corner_9)) (L := 64) (by kernel_rfl) ((FnOK.bare rfl rfl rfl).loop sp_blend_Corner eqOk mixOk (by kernel_rfl) (by kernel_rfl)) sp_blend_Corner eqOk mixOk (by kernel_rfl) (by kernel_rfl)
def sig_path_scaled : Sk := { tmps := [TS.v true [ci, ci, ci]], boxes := [], rows := [] }
def osig_path_scaled : Sk := { tmps := [TS.v true [ci, ci, ci]], boxes := [], rows := [] }
def C_path_scaled_0 : Cfg := { spec := lookS [], eqOk := eqAll, ownOff := ownOff }
def mf_path_scaled : Fn := modelF Try.prog C_path_scaled_0 64 186 sig_path_scaled osig_path_scaled
theorem mf_path_scaled_eq (x0 x1 x2 : Int) : mf_path_scaled [I x0, I x1, I x2] =
 some [I (IntKind.i64.wrap (x0 * 16)), I (IntKind.i64.wrap (x1 * 16)), I (IntKind.i64.wrap (x2 * 16))] := by kernel_rfl
def m_path_scaled := mf_path_scaled 
theorem sp_path_scaled : SpecOK Try.prog (C_path_scaled_0 ) := specOK_of rfl trivial
theorem r_path_scaled : RowOK Try.prog (186, spOf sig_path_scaled osig_path_scaled m_path_scaled) := row_of (C := C_path_scaled_0) (L := 64) (by kernel_rfl) (FnOK.bare rfl rfl rfl) sp_path_scaled eqOk mixOk (by kernel_rfl) (by kernel_rfl)
def sig_path_corner : Sk := { tmps := [TS.v true [ci, ci, ci, ci, ci, ci, ci, ci, ci, ci, ci, ci, ci, CS.bool, ci, CS.bool, ci, ci, ci, ci, ci, CS.bool], TS.v true [ci, ci, ci, ci, ci, ci, ci, ci, ci, ci, ci, ci, ci, CS.bool, ci, CS.bool, ci, ci, ci, ci, ci, CS.bool]], boxes := [], rows := [] }
def osig_path_corner : Sk := { tmps := [TS.tup [(false, [CS.sl kPt]), (false, [CS.sl kPt])]], boxes := [], rows := [] }
def C_path_corner_0 (M_blend_Corner M_path_scaled M_path_middle : Fn) : Cfg := { spec := lookS [(185, spOf sig_blend_Corner osig_blend_Corner M_blend_Corner), (186, spOf sig_path_scaled osig_path_scaled M_path_scaled), (162, spOf sig_path_middle osig_path_middle M_path_middle)], eqOk := eqAll, ownOff := ownOff }
def mf_path_corner (M_blend_Corner M_path_scaled M_path_middle : Fn) : Fn := modelF Try.prog (C_path_corner_0 M_blend_Corner M_path_scaled M_path_middle) 64 176 sig_path_corner osig_path_corner
theorem mf_path_corner_eq (M_blend_Corner M_path_scaled M_path_middle : Fn) (x0 x1 x2 x3 x4 x5 x6 x7 x8 x9 x10 x11 x12 : Int) (x13 : Bool) (x14 : Int) (x15 : Bool) (x16 x17 x18 x19 x20 : Int) (x21 : Bool) (x22 x23 x24 x25 x26 x27 x28 x29 x30 x31 x32 x33 x34 : Int) (x35 : Bool) (x36 : Int) (x37 : Bool) (x38 x39 x40 x41 x42 : Int) (x43 : Bool) : mf_path_corner M_blend_Corner M_path_scaled M_path_middle [I x0, I x1, I x2, I x3, I x4, I x5, I x6, I x7, I x8, I x9, I x10, I x11, I x12, B x13, I x14, B x15, I x16, I x17, I x18, I x19, I x20, B x21, I x22, I x23, I x24, I x25, I x26, I x27, I x28, I x29, I x30, I x31, I x32, I x33, I x34, B x35, I x36, B x37, I x38, I x39, I x40, I x41, I x42, B x43] =
 (M_path_middle [I x0, I x1, I x2, I x3, I x4, I x5, I x6, I x7, I x8, I x9, I x10, I x11, I x12, B x13, I x14, B x15, I x16, I x17, I x18, I x19, I x20, B x21]).bind fun o4 =>
 (M_path_scaled [I x5, I x6, I x7]).bind fun o5 =>
 (M_path_middle [I x22, I x23, I x24, I x25, I x26, I x27, I x28, I x29, I x30, I x31, I x32, I x33, I x34, B x35, I x36, B x37, I x38, I x39, I x40, I x41, I x42, B x43]).bind fun o6 =>
 (M_blend_Corner [jA o4 0, jA o4 1, jA o4 2, jA o5 0, jA o5 1, jA o5 2, jA o6 0, jA o6 1, jA o6 2, I (IntKind.i64.wrap (x18 * 16))]).bind fun o7 =>
 bif decide (0 <= IntKind.i64.wrap (IntKind.i64.wrap ((IntKind.i64.wrap ((↑(wA o7 0).length : Int) - 1)).tdiv 2) + 1)) && decide (IntKind.i64.wrap (IntKind.i64.wrap ((IntKind.i64.wrap ((↑(wA o7 0).length : Int) - 1)).tdiv 2) + 1) <= (↑(wA o7 0).length : Int)) then
 bif decide (0 <= IntKind.i64.wrap ((IntKind.i64.wrap ((↑(wA o7 0).length : Int) - 1)).tdiv 2)) && decide (IntKind.i64.wrap ((IntKind.i64.wrap ((↑(wA o7 0).length : Int) - 1)).tdiv 2) <= (↑(wA o7 0).length : Int)) then
 some [.view kPt (List.take (IntKind.i64.wrap (IntKind.i64.wrap ((IntKind.i64.wrap ((↑(wA o7 0).length : Int) - 1)).tdiv 2) + 1)).toNat (wA o7 0)), .view kPt (List.drop (IntKind.i64.wrap ((IntKind.i64.wrap ((↑(wA o7 0).length : Int) - 1)).tdiv 2)).toNat (wA o7 0))]
 else
 none
 else
 none := by kernel_rfl
def m_path_corner := mf_path_corner m_blend_Corner m_path_scaled m_path_middle 
theorem sp_path_corner : SpecOK Try.prog (C_path_corner_0 m_blend_Corner m_path_scaled m_path_middle) := specOK_of rfl ⟨r_blend_Corner, r_path_scaled, r_path_middle, trivial⟩
theorem r_path_corner : RowOK Try.prog (176, spOf sig_path_corner osig_path_corner m_path_corner) := row_of (C := (C_path_corner_0 m_blend_Corner m_path_scaled m_path_middle)) (L := 64) (by kernel_rfl) (FnOK.bare rfl rfl rfl) sp_path_corner eqOk mixOk (by kernel_rfl) (by kernel_rfl)
def sig_curve_axes : Sk := { tmps := [tf [ci]], boxes := [], rows := [] }
def osig_curve_axes : Sk := { tmps := [TS.tup [(false, [ci]), (false, [ci]), (false, [ci]), (false, [CS.bool])]], boxes := [], rows := [] }
def C_curve_axes_0 : Cfg := { spec := lookS [], eqOk := eqAll, ownOff := ownOff }
def mf_curve_axes : Fn := modelF Try.prog C_curve_axes_0 64 118 sig_curve_axes osig_curve_axes
theorem mf_curve_axes_eq (x0 : Int) : mf_curve_axes [I x0] =
 bif x0 == 17 then
 some [I 0, I 1, I 2, B true]
 else
 bif x0 == 18 then
 some [I 2, I 0, I 1, B true]
 else
 bif x0 == 19 then
 some [I 1, I 2, I 0, B true]
 else
 some [I 0, I 0, I 0, B false] := by kernel_rfl
def m_curve_axes := mf_curve_axes 
theorem sp_curve_axes : SpecOK Try.prog (C_curve_axes_0 ) := specOK_of rfl trivial
theorem r_curve_axes : RowOK Try.prog (118, spOf sig_curve_axes osig_curve_axes m_curve_axes) := row_of (C := C_curve_axes_0) (L := 64) (by kernel_rfl) (FnOK.bare rfl rfl rfl) sp_curve_axes eqOk mixOk (by kernel_rfl) (by kernel_rfl)
def sig_curve_Space : Sk := { tmps := [tf [ci], tf [ci], tf [ci], tf [ci]], boxes := [], rows := [] }
def osig_curve_Space : Sk := { tmps := [TS.v true [ci, ci, ci]], boxes := [], rows := [] }
def C_curve_Space_0 (M_curve_axes : Fn) : Cfg := { spec := lookS [(118, spOf sig_curve_axes osig_curve_axes M_curve_axes)], eqOk := eqAll, ownOff := ownOff }
def mf_curve_Space (M_curve_axes : Fn) : Fn := modelF Try.prog (C_curve_Space_0 M_curve_axes) 64 94 sig_curve_Space osig_curve_Space
abbrev g_curve_Space_2 (o1 : List AC) (x2 : Int) (h2_0 h2_1 h2_2 : AC) : Option (List AC) :=
 bif decide (gA o1 2 = (↑0 : Int)) then
 some [I x2, h2_0, h2_1]
 else
 bif decide (gA o1 2 = (↑(0 + 1) : Int)) then
 some [h2_2, I x2, h2_1]
 else
 bif decide (gA o1 2 = (↑(0 + 1 + 1) : Int)) then
 some [h2_2, h2_0, I x2]
 else
 none
attribute [go_sem] g_curve_Space_2
abbrev g_curve_Space_1 (o1 : List AC) (x2 x1 : Int) (h1_0 h1_1 h1_2 : AC) : Option (List AC) :=
 bif decide (gA o1 1 = (↑0 : Int)) then
 g_curve_Space_2 o1 x2 h1_0 h1_1 (I x1)
 else
 bif decide (gA o1 1 = (↑(0 + 1) : Int)) then
 g_curve_Space_2 o1 x2 (I x1) h1_1 h1_2
 else
 bif decide (gA o1 1 = (↑(0 + 1 + 1) : Int)) then
 g_curve_Space_2 o1 x2 h1_0 (I x1) h1_2
 else
 none
attribute [go_sem] g_curve_Space_1
theorem mf_curve_Space_eq (M_curve_axes : Fn) (x0 x1 x2 x3 : Int) : mf_curve_Space M_curve_axes [I x0, I x1, I x2, I x3] =
 (M_curve_axes [I x3]).bind fun o1 =>
 bif bA o1 3 then
 bif decide (gA o1 0 = (↑0 : Int)) then
 g_curve_Space_1 o1 x2 x1 (I 0) (I 0) (I x0)
 else
 bif decide (gA o1 0 = (↑(0 + 1) : Int)) then
 g_curve_Space_1 o1 x2 x1 (I x0) (I 0) (I 0)
 else
 bif decide (gA o1 0 = (↑(0 + 1 + 1) : Int)) then
 g_curve_Space_1 o1 x2 x1 (I 0) (I x0) (I 0)
 else
 none
 else
 some [I 0, I 0, I 0] := by kernel_rfl
def m_curve_Space := mf_curve_Space m_curve_axes 
theorem sp_curve_Space : SpecOK Try.prog (C_curve_Space_0 m_curve_axes) := specOK_of rfl ⟨r_curve_axes, trivial⟩
theorem r_curve_Space : RowOK Try.prog (94, spOf sig_curve_Space osig_curve_Space m_curve_Space) := row_of (C := (C_curve_Space_0 m_curve_axes)) (L := 64) (by kernel_rfl) (FnOK.bare rfl rfl rfl) sp_curve_Space eqOk mixOk (by kernel_rfl) (by kernel_rfl)
def sig_curve_Plane : Sk := { tmps := [TS.v true [ci, ci, ci], tf [ci]], boxes := [], rows := [] }
def osig_curve_Plane : Sk := { tmps := [TS.tup [(false, [ci]), (false, [ci]), (false, [ci])]], boxes := [], rows := [] }
def C_curve_Plane_0 (M_curve_axes : Fn) : Cfg := { spec := lookS [(118, spOf sig_curve_axes osig_curve_axes M_curve_axes)], eqOk := eqAll, ownOff := ownOff }
def mf_curve_Plane (M_curve_axes : Fn) : Fn := modelF Try.prog (C_curve_Plane_0 M_curve_axes) 64 67 sig_curve_Plane osig_curve_Plane
abbrev g_curve_Plane_2 (o1 : List AC) (h1_0 : AC) (x0 x1 x2 : Int) (h2_0 : AC) : Option (List AC) :=
 bif decide (gA o1 2 = (↑0 : Int)) then
 some [h1_0, h2_0, I x0]
 else
 bif decide (gA o1 2 = (↑(0 + 1) : Int)) then
 some [h1_0, h2_0, I x1]
 else
 bif decide (gA o1 2 = (↑(0 + 1 + 1) : Int)) then
 some [h1_0, h2_0, I x2]
 else
 none
attribute [go_sem] g_curve_Plane_2
abbrev g_curve_Plane_1 (o1 : List AC) (x0 x1 x2 : Int) (h1_0 : AC) : Option (List AC) :=
 bif decide (gA o1 1 = (↑0 : Int)) then
 g_curve_Plane_2 o1 h1_0 x0 x1 x2 (I x0)
 else
 bif decide (gA o1 1 = (↑(0 + 1) : Int)) then
 g_curve_Plane_2 o1 h1_0 x0 x1 x2 (I x1)
 else
 bif decide (gA o1 1 = (↑(0 + 1 + 1) : Int)) then
 g_curve_Plane_2 o1 h1_0 x0 x1 x2 (I x2)
 else
 none
attribute [go_sem] g_curve_Plane_1
theorem mf_curve_Plane_eq (M_curve_axes : Fn) (x0 x1 x2 x3 : Int) : mf_curve_Plane M_curve_axes [I x0, I x1, I x2, I x3] =
 (M_curve_axes [I x3]).bind fun o1 =>
 bif !bA o1 3 then
 some [I 0, I 0, I 0]
 else
 bif decide (gA o1 0 = (↑0 : Int)) then
 g_curve_Plane_1 o1 x0 x1 x2 (I x0)
 else
 bif decide (gA o1 0 = (↑(0 + 1) : Int)) then
 g_curve_Plane_1 o1 x0 x1 x2 (I x1)
 else
 bif decide (gA o1 0 = (↑(0 + 1 + 1) : Int)) then
 g_curve_Plane_1 o1 x0 x1 x2 (I x2)
 else
 none := by kernel_rfl
def m_curve_Plane := mf_curve_Plane m_curve_axes 
theorem sp_curve_Plane : SpecOK Try.prog (C_curve_Plane_0 m_curve_axes) := specOK_of rfl ⟨r_curve_axes, trivial⟩
theorem r_curve_Plane : RowOK Try.prog (67, spOf sig_curve_Plane osig_curve_Plane m_curve_Plane) := row_of (C := (C_curve_Plane_0 m_curve_axes)) (L := 64) (by kernel_rfl) (FnOK.bare rfl rfl rfl) sp_curve_Plane eqOk mixOk (by kernel_rfl) (by kernel_rfl)
def sig_curve_scaled : Sk := { tmps := [TS.v true [ci, ci, ci]], boxes := [], rows := [] }
def osig_curve_scaled : Sk := { tmps := [TS.v true [ci, ci, ci]], boxes := [], rows := [] }
def C_curve_scaled_0 : Cfg := { spec := lookS [], eqOk := eqAll, ownOff := ownOff }
def mf_curve_scaled : Fn := modelF Try.prog C_curve_scaled_0 64 93 sig_curve_scaled osig_curve_scaled
theorem mf_curve_scaled_eq (x0 x1 x2 : Int) : mf_curve_scaled [I x0, I x1, I x2] =
 some [I (IntKind.i64.wrap (x0 * 16)), I (IntKind.i64.wrap (x1 * 16)), I (IntKind.i64.wrap (x2 * 16))] := by kernel_rfl
def m_curve_scaled := mf_curve_scaled 
theorem sp_curve_scaled : SpecOK Try.prog (C_curve_scaled_0 ) := specOK_of rfl trivial
theorem r_curve_scaled : RowOK Try.prog (93, spOf sig_curve_scaled osig_curve_scaled m_curve_scaled) := row_of (C := C_curve_scaled_0) (L := 64) (by kernel_rfl) (FnOK.bare rfl rfl rfl) sp_curve_scaled eqOk mixOk (by kernel_rfl) (by kernel_rfl)
def sig_curve_cross : Sk := { tmps := [TS.v true [ci, ci, ci, ci], TS.v true [ci, ci, ci, ci]], boxes := [], rows := [] }
def osig_curve_cross : Sk := { tmps := [tf [ci]], boxes := [], rows := [] }
def C_curve_cross_0 : Cfg := { spec := lookS [], eqOk := eqAll, ownOff := ownOff }
def mf_curve_cross : Fn := modelF Try.prog C_curve_cross_0 64 122 sig_curve_cross osig_curve_cross
theorem mf_curve_cross_eq (x0 x1 x2 x3 x4 x5 x6 x7 : Int) : mf_curve_cross [I x0, I x1, I x2, I x3, I x4, I x5, I x6, I x7] =
 some [I (IntKind.i64.wrap (IntKind.i64.wrap (x0 * x5) - IntKind.i64.wrap (x1 * x4)))] := by kernel_rfl
def m_curve_cross := mf_curve_cross 
theorem sp_curve_cross : SpecOK Try.prog (C_curve_cross_0 ) := specOK_of rfl trivial
theorem r_curve_cross : RowOK Try.prog (122, spOf sig_curve_cross osig_curve_cross m_curve_cross) := row_of (C := C_curve_cross_0) (L := 64) (by kernel_rfl) (FnOK.bare rfl rfl rfl) sp_curve_cross eqOk mixOk (by kernel_rfl) (by kernel_rfl)
def sig_curve_dot : Sk := { tmps := [TS.v true [ci, ci, ci, ci], TS.v true [ci, ci, ci, ci]], boxes := [], rows := [] }
def osig_curve_dot : Sk := { tmps := [tf [ci]], boxes := [], rows := [] }
def C_curve_dot_0 : Cfg := { spec := lookS [], eqOk := eqAll, ownOff := ownOff }
def mf_curve_dot : Fn := modelF Try.prog C_curve_dot_0 64 120 sig_curve_dot osig_curve_dot
theorem mf_curve_dot_eq (x0 x1 x2 x3 x4 x5 x6 x7 : Int) : mf_curve_dot [I x0, I x1, I x2, I x3, I x4, I x5, I x6, I x7] =
 some [I (IntKind.i64.wrap (IntKind.i64.wrap (x0 * x4) + IntKind.i64.wrap (x1 * x5)))] := by kernel_rfl
def m_curve_dot := mf_curve_dot 
theorem sp_curve_dot : SpecOK Try.prog (C_curve_dot_0 ) := specOK_of rfl trivial
theorem r_curve_dot : RowOK Try.prog (120, spOf sig_curve_dot osig_curve_dot m_curve_dot) := row_of (C := C_curve_dot_0) (L := 64) (by kernel_rfl) (FnOK.bare rfl rfl rfl) sp_curve_dot eqOk mixOk (by kernel_rfl) (by kernel_rfl)
def sig_curve_Middle : Sk := { tmps := [TS.v true [ci, ci, ci, ci], TS.v true [ci, ci, ci, ci], tf [ci], tf [CS.bool]], boxes := [], rows := [] }
def osig_curve_Middle : Sk := { tmps := [TS.tup [(true, [ci, ci, ci, ci]), (false, [CS.bool])]], boxes := [], rows := [] }
def C_curve_Middle_0 (M_wide_Over M_curve_cross M_curve_dot : Fn) : Cfg := { spec := lookS [(175, spOf sig_wide_Over osig_wide_Over M_wide_Over), (122, spOf sig_curve_cross osig_curve_cross M_curve_cross), (120, spOf sig_curve_dot osig_curve_dot M_curve_dot)], eqOk := eqAll, ownOff := ownOff }
def mf_curve_Middle (M_wide_Over M_curve_cross M_curve_dot : Fn) : Fn := modelF Try.prog (C_curve_Middle_0 M_wide_Over M_curve_cross M_curve_dot) 64 158 sig_curve_Middle osig_curve_Middle
abbrev g_curve_Middle_3 (M_wide_Over : Fn) (h1_2 : AC) (x2 x6 : Int) (h1_3 h1_4 : AC) (x3 x7 : Int) : Option (List AC) :=
 (M_wide_Over [h1_2, I ((IntKind.i64.wrap (IntKind.i64.wrap (x2 + x6) + 1)).fdiv (2 ^ min (Int.toNat 1) IntKind.i64.bits)), h1_3, I 2]).bind fun o36 =>
 (M_wide_Over [h1_4, I ((IntKind.i64.wrap (IntKind.i64.wrap (x2 + x6) + 1)).fdiv (2 ^ min (Int.toNat 1) IntKind.i64.bits)), h1_3, I 2]).bind fun o37 =>
 some [jA o36 0, jA o37 0, I ((IntKind.i64.wrap (IntKind.i64.wrap (x2 + x6) + 1)).fdiv (2 ^ min (Int.toNat 1) IntKind.i64.bits)), I ((IntKind.i64.wrap (IntKind.i64.wrap (x3 + x7) + 1)).fdiv (2 ^ min (Int.toNat 1) IntKind.i64.bits)), B true]
attribute [go_sem] g_curve_Middle_3
abbrev g_curve_Middle_1 (M_wide_Over : Fn) (x2 x6 x3 x7 : Int) (h1_0 h1_1 : Bool) (h1_2 h1_3 h1_4 : AC) : Option (List AC) :=
 bif h1_0 then
 bif h1_1 then
 some [I 0, I 0, I 0, I 0, B false]
 else
 g_curve_Middle_3 M_wide_Over h1_2 x2 x6 h1_3 h1_4 x3 x7
 else
 g_curve_Middle_3 M_wide_Over h1_2 x2 x6 h1_3 h1_4 x3 x7
attribute [go_sem] g_curve_Middle_1
abbrev g_curve_Middle_2 (x9 : Bool) (M_wide_Over : Fn) (x2 x6 x3 x7 x0 x1 : Int) (M_curve_dot : Fn) (x4 x5 x8 : Int) (M_curve_cross : Fn) : Option (List AC) :=
 bif x9 then
 g_curve_Middle_1 M_wide_Over x2 x6 x3 x7 (IntKind.i64.wrap (0 - x0) == 0) (IntKind.i64.wrap (0 - x1) == 0) (I (IntKind.i64.wrap (0 - x0))) (I (IntKind.i64.wrap (IntKind.i64.wrap (IntKind.i64.wrap (0 - x0) * IntKind.i64.wrap (0 - x0)) + IntKind.i64.wrap (IntKind.i64.wrap (0 - x1) * IntKind.i64.wrap (0 - x1))))) (I (IntKind.i64.wrap (0 - x1)))
 else
 (M_curve_dot [I x0, I x1, I x2, I x3, I x4, I x5, I x6, I x7]).bind fun o40 =>
 bif decide (gA o40 0 <= 0) then
 g_curve_Middle_1 M_wide_Over x2 x6 x3 x7 (IntKind.i64.wrap (x8 * IntKind.i64.wrap (x5 - x1)) == 0) (IntKind.i64.wrap (x8 * IntKind.i64.wrap (x0 - x4)) == 0) (I (IntKind.i64.wrap (x8 * IntKind.i64.wrap (x5 - x1)))) (I (IntKind.i64.wrap (IntKind.i64.wrap (IntKind.i64.wrap (x8 * IntKind.i64.wrap (x5 - x1)) * IntKind.i64.wrap (x8 * IntKind.i64.wrap (x5 - x1))) + IntKind.i64.wrap (IntKind.i64.wrap (x8 * IntKind.i64.wrap (x0 - x4)) * IntKind.i64.wrap (x8 * IntKind.i64.wrap (x0 - x4)))))) (I (IntKind.i64.wrap (x8 * IntKind.i64.wrap (x0 - x4))))
 else
 (M_curve_cross [I x0, I x1, I x2, I x3, I x4, I x5, I x6, I x7]).bind fun o45 =>
 bif decide (IntKind.i64.wrap (gA o45 0 * x8) <= 0) then
 g_curve_Middle_1 M_wide_Over x2 x6 x3 x7 (IntKind.i64.wrap (0 - IntKind.i64.wrap (x0 + x4)) == 0) (IntKind.i64.wrap (0 - IntKind.i64.wrap (x1 + x5)) == 0) (I (IntKind.i64.wrap (0 - IntKind.i64.wrap (x0 + x4)))) (I (IntKind.i64.wrap (IntKind.i64.wrap (IntKind.i64.wrap (0 - IntKind.i64.wrap (x0 + x4)) * IntKind.i64.wrap (0 - IntKind.i64.wrap (x0 + x4))) + IntKind.i64.wrap (IntKind.i64.wrap (0 - IntKind.i64.wrap (x1 + x5)) * IntKind.i64.wrap (0 - IntKind.i64.wrap (x1 + x5)))))) (I (IntKind.i64.wrap (0 - IntKind.i64.wrap (x1 + x5))))
 else
 g_curve_Middle_1 M_wide_Over x2 x6 x3 x7 (IntKind.i64.wrap (x0 + x4) == 0) (IntKind.i64.wrap (x1 + x5) == 0) (I (IntKind.i64.wrap (x0 + x4))) (I (IntKind.i64.wrap (IntKind.i64.wrap (IntKind.i64.wrap (x0 + x4) * IntKind.i64.wrap (x0 + x4)) + IntKind.i64.wrap (IntKind.i64.wrap (x1 + x5) * IntKind.i64.wrap (x1 + x5))))) (I (IntKind.i64.wrap (x1 + x5)))
attribute [go_sem] g_curve_Middle_2
theorem mf_curve_Middle_eq (M_wide_Over M_curve_cross M_curve_dot : Fn) (x0 x1 x2 x3 x4 x5 x6 x7 x8 : Int) (x9 : Bool) : mf_curve_Middle M_wide_Over M_curve_cross M_curve_dot [I x0, I x1, I x2, I x3, I x4, I x5, I x6, I x7, I x8, B x9] =
 bif x8 != 1 then
 bif x8 != -1 then
 some [I 0, I 0, I 0, I 0, B false]
 else
 g_curve_Middle_2 x9 M_wide_Over x2 x6 x3 x7 x0 x1 M_curve_dot x4 x5 x8 M_curve_cross
 else
 g_curve_Middle_2 x9 M_wide_Over x2 x6 x3 x7 x0 x1 M_curve_dot x4 x5 x8 M_curve_cross := by kernel_rfl
def m_curve_Middle := mf_curve_Middle m_wide_Over m_curve_cross m_curve_dot 
theorem sp_curve_Middle : SpecOK Try.prog (C_curve_Middle_0 m_wide_Over m_curve_cross m_curve_dot) := specOK_of rfl ⟨r_wide_Over, r_curve_cross, r_curve_dot, trivial⟩
theorem r_curve_Middle : RowOK Try.prog (158, spOf sig_curve_Middle osig_curve_Middle m_curve_Middle) := row_of (C := (C_curve_Middle_0 m_wide_Over m_curve_cross m_curve_dot)) (L := 64) (by kernel_rfl) (FnOK.bare rfl rfl rfl) sp_curve_Middle eqOk mixOk (by kernel_rfl) (by kernel_rfl)
def sig_curve_Flat : Sk := { tmps := [tf [ci], tf [ci]], boxes := [], rows := [] }
def osig_curve_Flat : Sk := { tmps := [tf [CS.bool]], boxes := [], rows := [] }
def C_curve_Flat_0 : Cfg := { spec := lookS [], eqOk := eqAll, ownOff := ownOff }
def mf_curve_Flat : Fn := modelF Try.prog C_curve_Flat_0 64 174 sig_curve_Flat osig_curve_Flat
theorem mf_curve_Flat_eq (x0 x1 : Int) : mf_curve_Flat [I x0, I x1] =
 some [B (decide (x1 <= IntKind.i64.wrap (IntKind.i64.wrap (IntKind.i64.wrap (8 * x0) * 4) - 64)))] := by kernel_rfl
def m_curve_Flat := mf_curve_Flat 
theorem sp_curve_Flat : SpecOK Try.prog (C_curve_Flat_0 ) := specOK_of rfl trivial
theorem r_curve_Flat : RowOK Try.prog (174, spOf sig_curve_Flat osig_curve_Flat m_curve_Flat) := row_of (C := C_curve_Flat_0) (L := 64) (by kernel_rfl) (FnOK.bare rfl rfl rfl) sp_curve_Flat eqOk mixOk (by kernel_rfl) (by kernel_rfl)
def sig_curve_cutter_settled : Sk := { tmps := [tf [CS.ptr 20000 0], TS.v true [ci, ci, ci, ci], TS.v true [ci, ci, ci, ci], tf [CS.bool]], boxes := [(20000, 153, [ci, CS.own 20000 4])], rows := [(20000, 99, [kI, kI, kI, kI])] }
def osig_curve_cutter_settled : Sk := { tmps := [tf [CS.bool]], boxes := [(20000, 153, [ci, CS.own 20000 4])], rows := [(20000, 99, [kI, kI, kI, kI])] }
def C_curve_cutter_settled_0 (M_curve_Flat M_curve_cross : Fn) : Cfg := { spec := lookS [(174, spOf sig_curve_Flat osig_curve_Flat M_curve_Flat), (122, spOf sig_curve_cross osig_curve_cross M_curve_cross)], eqOk := eqAll, ownOff := ownOff }
def mf_curve_cutter_settled (M_curve_Flat M_curve_cross : Fn) : Fn := modelF Try.prog (C_curve_cutter_settled_0 M_curve_Flat M_curve_cross) 64 157 sig_curve_cutter_settled osig_curve_cutter_settled
theorem mf_curve_cutter_settled_eq (M_curve_Flat M_curve_cross : Fn) (x0 : Rw) (x1 x2 x3 x4 x5 x6 x7 x8 : Int) (x9 : Bool) (x10 : Int) : mf_curve_cutter_settled M_curve_Flat M_curve_cross [.view [kI, kI, kI, kI] x0, I x1, I x2, I x3, I x4, I x5, I x6, I x7, I x8, B x9, I x10] =
 bif !x9 then
 (M_curve_cross [I x1, I x2, I x3, I x4, I x5, I x6, I x7, I x8]).bind fun o2 =>
 bif decide (IntKind.i64.wrap (gA o2 0 * x10) > 0) then
 (M_curve_Flat [I (mn x3 x7), I (IntKind.i64.wrap (IntKind.i64.wrap (IntKind.i64.wrap (x1 - x5) * IntKind.i64.wrap (x1 - x5)) + IntKind.i64.wrap (IntKind.i64.wrap (x2 - x6) * IntKind.i64.wrap (x2 - x6))))]).bind fun o3 =>
 some [.view [kI, kI, kI, kI] x0, B (bA o3 0), I x10]
 else
 some [.view [kI, kI, kI, kI] x0, B false, I x10]
 else
 some [.view [kI, kI, kI, kI] x0, B false, I x10] := by kernel_rfl
def m_curve_cutter_settled := mf_curve_cutter_settled m_curve_Flat m_curve_cross 
theorem sp_curve_cutter_settled : SpecOK Try.prog (C_curve_cutter_settled_0 m_curve_Flat m_curve_cross) := specOK_of rfl ⟨r_curve_Flat, r_curve_cross, trivial⟩
theorem r_curve_cutter_settled : RowOK Try.prog (157, spOf sig_curve_cutter_settled osig_curve_cutter_settled m_curve_cutter_settled) := row_of (C := (C_curve_cutter_settled_0 m_curve_Flat m_curve_cross)) (L := 64) (by kernel_rfl) (FnOK.bare rfl rfl rfl) sp_curve_cutter_settled eqOk mixOk (by kernel_rfl) (by kernel_rfl)
def fuel_curve_cutter_piece : Nat := 20
def sig_curve_cutter_piece : Sk := { tmps := [tf [CS.ptr 20000 0], TS.v true [ci, ci, ci, ci], TS.v true [ci, ci, ci, ci], tf [CS.bool], tf [ci]], boxes := [(20000, 153, [ci, CS.own 20000 4])], rows := [(20000, 99, [kI, kI, kI, kI])] }
def osig_curve_cutter_piece : Sk := { tmps := [TS.tup []], boxes := [(20000, 153, [ci, CS.own 20000 4])], rows := [(20000, 99, [kI, kI, kI, kI])] }
def C_curve_cutter_piece_0 (M_curve_cutter_piece M_curve_Middle M_curve_cutter_settled : Fn) : Cfg := { spec := lookS [(135, spOf sig_curve_cutter_piece osig_curve_cutter_piece M_curve_cutter_piece), (158, spOf sig_curve_Middle osig_curve_Middle M_curve_Middle), (157, spOf sig_curve_cutter_settled osig_curve_cutter_settled M_curve_cutter_settled)], eqOk := eqAll, pure := fun f => !(elemN [135, 157] f), ownOff := ownOff }
def mf_curve_cutter_piece (M_curve_cutter_piece M_curve_Middle M_curve_cutter_settled : Fn) : Fn := modelF Try.prog (C_curve_cutter_piece_0 M_curve_cutter_piece M_curve_Middle M_curve_cutter_settled) 64 135 sig_curve_cutter_piece osig_curve_cutter_piece
theorem mf_curve_cutter_piece_eq (M_curve_cutter_piece M_curve_Middle M_curve_cutter_settled : Fn) (x0 : Rw) (x1 x2 x3 x4 x5 x6 x7 x8 : Int) (x9 : Bool) (x10 x11 : Int) : mf_curve_cutter_piece M_curve_cutter_piece M_curve_Middle M_curve_cutter_settled [.view [kI, kI, kI, kI] x0, I x1, I x2, I x3, I x4, I x5, I x6, I x7, I x8, B x9, I x10, I x11] =
 bif decide (x10 < 16) then
 (M_curve_cutter_settled [.view [kI, kI, kI, kI] x0, I x1, I x2, I x3, I x4, I x5, I x6, I x7, I x8, B x9, I x11]).bind fun o4 =>
 bif !bA o4 1 then
 (M_curve_Middle [I x1, I x2, I x3, I x4, I x5, I x6, I x7, I x8, jA o4 2, B x9]).bind fun o5 =>
 bif bA o5 4 then
 (M_curve_cutter_piece [.view [kI, kI, kI, kI] (wA o4 0), I x1, I x2, I x3, I x4, jA o5 0, jA o5 1, jA o5 2, jA o5 3, B false, I (IntKind.i64.wrap (x10 + 1)), jA o4 2]).bind fun o6 =>
 (M_curve_cutter_piece [.view [kI, kI, kI, kI] (wA o6 0), jA o5 0, jA o5 1, jA o5 2, jA o5 3, I x5, I x6, I x7, I x8, B false, I (IntKind.i64.wrap (x10 + 1)), jA o6 1]).bind fun o7 =>
 some [.view [kI, kI, kI, kI] (wA o7 0), jA o7 1]
 else
 bif ((wA o4 0 ++ [[I x5, I x6, I x7, I x8]]).length * 32).ble 140737488355328 then
 some [.view [kI, kI, kI, kI] (wA o4 0 ++ [[I x5, I x6, I x7, I x8]]), jA o4 2]
 else
 none
 else
 bif ((wA o4 0 ++ [[I x5, I x6, I x7, I x8]]).length * 32).ble 140737488355328 then
 some [.view [kI, kI, kI, kI] (wA o4 0 ++ [[I x5, I x6, I x7, I x8]]), jA o4 2]
 else
 none
 else
 bif ((x0 ++ [[I x5, I x6, I x7, I x8]]).length * 32).ble 140737488355328 then
 some [.view [kI, kI, kI, kI] (x0 ++ [[I x5, I x6, I x7, I x8]]), I x11]
 else
 none := by kernel_rfl
def mG_curve_cutter_piece (M : Fn) : Fn := mf_curve_cutter_piece M m_curve_Middle m_curve_cutter_settled 
def mR_curve_cutter_piece : Nat -> Fn
 | 0 => fun _ => none
 | n + 1 => mG_curve_cutter_piece (mR_curve_cutter_piece n)
theorem sp_curve_cutter_piece {M : Fn} (h : RowOK Try.prog (135, spOf sig_curve_cutter_piece osig_curve_cutter_piece M)) : SpecOK Try.prog (C_curve_cutter_piece_0 M m_curve_Middle m_curve_cutter_settled) := specOK_of rfl ⟨h, r_curve_Middle, r_curve_cutter_settled, trivial⟩
theorem rG_curve_cutter_piece {M : Fn} (h : RowOK Try.prog (135, spOf sig_curve_cutter_piece osig_curve_cutter_piece M)) : RowOK Try.prog (135, spOf sig_curve_cutter_piece osig_curve_cutter_piece (mG_curve_cutter_piece M)) := row_of (C := (C_curve_cutter_piece_0 M m_curve_Middle m_curve_cutter_settled)) (L := 64) (by kernel_rfl) (FnOK.bare rfl rfl rfl) (sp_curve_cutter_piece h) eqOk mixOk (by kernel_rfl) (by kernel_rfl)
theorem rR_curve_cutter_piece : ∀ n, RowOK Try.prog (135, spOf sig_curve_cutter_piece osig_curve_cutter_piece (mR_curve_cutter_piece n))
 | 0 => row_none
 | n + 1 => rG_curve_cutter_piece (rR_curve_cutter_piece n)
def m_curve_cutter_piece := mR_curve_cutter_piece fuel_curve_cutter_piece
theorem r_curve_cutter_piece : RowOK Try.prog (135, spOf sig_curve_cutter_piece osig_curve_cutter_piece m_curve_cutter_piece) := rR_curve_cutter_piece fuel_curve_cutter_piece
def sig_curve_ends : Sk := { tmps := [TS.v true [ci, ci, ci, ci, ci, ci, ci, ci, ci, ci, ci, ci, ci, CS.bool, ci, CS.bool, ci, ci, ci, ci, ci, CS.bool]], boxes := [], rows := [] }
def osig_curve_ends : Sk := { tmps := [TS.tup [(true, [ci, ci, ci, ci]), (true, [ci, ci, ci, ci])]], boxes := [], rows := [] }
def C_curve_ends_0 (M_curve_Plane M_curve_scaled : Fn) : Cfg := { spec := lookS [(67, spOf sig_curve_Plane osig_curve_Plane M_curve_Plane), (93, spOf sig_curve_scaled osig_curve_scaled M_curve_scaled)], eqOk := eqAll, ownOff := ownOff }
def sk_curve_ends_4 : Sk := { tmps := [td, tf [CS.ptr 1 0], tf [CS.ptr 2 0], tf [CS.ptr 3 0], tf [CS.ptr 4 0], tf [ci], tf [ci], td, td, td, td, td, td, td, td, td, td, td, td, td, td, td, td, td, td, td, td, TS.v true [ci, ci, ci, ci, ci, ci], tf [ci]] ++ dd 27, boxes := [(1, 33, [ci, ci, ci, ci, ci, ci, ci, ci, ci, ci, ci, ci, ci, CS.bool, ci, CS.bool, ci, ci, ci, ci, ci, CS.bool]), (2, 99, [ci, ci, ci, ci]), (3, 99, [ci, ci, ci, ci]), (4, 170, [ci, ci, ci, ci, ci, ci, ci, ci])], rows := [] }
def ex_curve_ends_4 : List (Ex × Sk) := [(Ex.exit 0, { tmps := [td, td, tf [CS.ptr 2 0], tf [CS.ptr 3 0], tf [CS.ptr 4 0]] ++ dd 51, boxes := [(2, 99, [ci, ci, ci, ci]), (3, 99, [ci, ci, ci, ci]), (4, 170, [ci, ci, ci, ci, ci, ci, ci, ci])], rows := [] })]
def st_curve_ends_4 (M_curve_Plane M_curve_scaled : Fn) : Lp := stepL Try.prog (C_curve_ends_0 M_curve_Plane M_curve_scaled) 64 4 (bodyOf Try.prog 119 4) sk_curve_ends_4 ex_curve_ends_4
def C_curve_ends_1 (M_curve_Plane M_curve_scaled : Fn) (N4 : Lp) : Cfg := (C_curve_ends_0 M_curve_Plane M_curve_scaled).loop 4 sk_curve_ends_4 ex_curve_ends_4 N4
def mf_curve_ends (M_curve_Plane M_curve_scaled : Fn) (N4 : Lp) : Fn := modelF Try.prog (C_curve_ends_1 M_curve_Plane M_curve_scaled N4) 64 119 sig_curve_ends osig_curve_ends
abbrev g_s_curve_ends_4_1 (M_curve_scaled M_curve_Plane : Fn) (v17 v8 v0 v1 v2 v3 v4 v5 v6 v7 v9 v10 v11 v12 v13 v14 v15 v16 v18 v19 v20 v21 : Int) (v22 : Bool) (v23 : Int) (v24 : Bool) (v25 v26 v27 v28 v29 : Int) (v30 : Bool) (v31 v32 v33 v34 v35 v36 v37 v38 v43 v44 v45 v46 v39 v40 v41 v42 : Int) (h1_0 h1_1 h1_2 : AC) : Option (Nat × List AC) :=
 (M_curve_scaled [h1_0, h1_1, h1_2]).bind fun o9 =>
 (M_curve_Plane [jA o9 0, jA o9 1, jA o9 2, I v17]).bind fun o10 =>
 bif decide (v8 = (↑0 : Int)) then
 some (0, [I v0, I v1, I v2, I v3, I v4, I v5, I v6, I v7, I (IntKind.i64.wrap (v8 + 1)), I v9, I v10, I v11, I v12, I v13, I v14, I v15, I v16, I v17, I v18, I v19, I v20, I v21, B v22, I v23, B v24, I v25, I v26, I v27, I v28, I v29, B v30, I v31, I v32, I v33, I v34, I v35, I v36, I v37, I v38, I (IntKind.i64.wrap (gA o10 0 - v0)), I (IntKind.i64.wrap (gA o10 1 - v1)), I 0, jA o10 2, I v43, I v44, I v45, I v46])
 else
 bif decide (v8 = (↑(0 + 1) : Int)) then
 some (0, [I v0, I v1, I v2, I v3, I v4, I v5, I v6, I v7, I (IntKind.i64.wrap (v8 + 1)), I v9, I v10, I v11, I v12, I v13, I v14, I v15, I v16, I v17, I v18, I v19, I v20, I v21, B v22, I v23, B v24, I v25, I v26, I v27, I v28, I v29, B v30, I v31, I v32, I v33, I v34, I v35, I v36, I v37, I v38, I v39, I v40, I v41, I v42, I (IntKind.i64.wrap (gA o10 0 - v0)), I (IntKind.i64.wrap (gA o10 1 - v1)), I 0, jA o10 2])
 else
 none
attribute [go_sem] g_s_curve_ends_4_1
theorem st_curve_ends_4_eq (M_curve_Plane M_curve_scaled : Fn) (v0 v1 v2 v3 v4 v5 v6 v7 v8 v9 v10 v11 v12 v13 v14 v15 v16 v17 v18 v19 v20 v21 : Int) (v22 : Bool) (v23 : Int) (v24 : Bool) (v25 v26 v27 v28 v29 : Int) (v30 : Bool) (v31 v32 v33 v34 v35 v36 v37 v38 v39 v40 v41 v42 v43 v44 v45 v46 : Int) : st_curve_ends_4 M_curve_Plane M_curve_scaled [I v0, I v1, I v2, I v3, I v4, I v5, I v6, I v7, I v8, I v9, I v10, I v11, I v12, I v13, I v14, I v15, I v16, I v17, I v18, I v19, I v20, I v21, B v22, I v23, B v24, I v25, I v26, I v27, I v28, I v29, B v30, I v31, I v32, I v33, I v34, I v35, I v36, I v37, I v38, I v39, I v40, I v41, I v42, I v43, I v44, I v45, I v46] =
 bif decide (v8 < 2) then
 bif decide (v8 = (↑0 : Int)) then
 g_s_curve_ends_4_1 M_curve_scaled M_curve_Plane v17 v8 v0 v1 v2 v3 v4 v5 v6 v7 v9 v10 v11 v12 v13 v14 v15 v16 v18 v19 v20 v21 v22 v23 v24 v25 v26 v27 v28 v29 v30 v31 v32 v33 v34 v35 v36 v37 v38 v43 v44 v45 v46 v39 v40 v41 v42 (I v2) (I v3) (I v4)
 else
 bif decide (v8 = (↑(0 + 1) : Int)) then
 g_s_curve_ends_4_1 M_curve_scaled M_curve_Plane v17 v8 v0 v1 v2 v3 v4 v5 v6 v7 v9 v10 v11 v12 v13 v14 v15 v16 v18 v19 v20 v21 v22 v23 v24 v25 v26 v27 v28 v29 v30 v31 v32 v33 v34 v35 v36 v37 v38 v43 v44 v45 v46 v39 v40 v41 v42 (I v5) (I v6) (I v7)
 else
 none
 else
 some (1, [I v31, I v32, I v33, I v34, I v35, I v36, I v37, I v38, I v39, I v40, I v41, I v42, I v43, I v44, I v45, I v46]) := by kernel_rfl
theorem mf_curve_ends_eq (M_curve_Plane M_curve_scaled : Fn) (N4 : Lp) (x0 x1 x2 x3 x4 x5 x6 x7 x8 x9 x10 x11 x12 : Int) (x13 : Bool) (x14 : Int) (x15 : Bool) (x16 x17 x18 x19 x20 : Int) (x21 : Bool) : mf_curve_ends M_curve_Plane M_curve_scaled N4 [I x0, I x1, I x2, I x3, I x4, I x5, I x6, I x7, I x8, I x9, I x10, I x11, I x12, B x13, I x14, B x15, I x16, I x17, I x18, I x19, I x20, B x21] =
 (M_curve_scaled [I x9, I x10, I x11]).bind fun o13 =>
 (M_curve_Plane [jA o13 0, jA o13 1, jA o13 2, I x8]).bind fun o14 =>
 (N4 [jA o14 0, jA o14 1, I x2, I x3, I x4, I x5, I x6, I x7, I 0, I x0, I x1, I x2, I x3, I x4, I x5, I x6, I x7, I x8, I x9, I x10, I x11, I x12, B x13, I x14, B x15, I x16, I x17, I x18, I x19, I x20, B x21, I 0, I 0, I 0, I 0, I 0, I 0, I 0, I 0, I 0, I 0, I 0, I 0, I 0, I 0, I 0, I 0]).bind fun o15 =>
 bif o15.1.beq 1 then
 some [jA o15.2 8, jA o15.2 9, jA o15.2 10, jA o15.2 11, jA o15.2 12, jA o15.2 13, jA o15.2 14, jA o15.2 15]
 else
 none := by kernel_rfl
def l_curve_ends_4 := loopC (st_curve_ends_4 m_curve_Plane m_curve_scaled )
def m_curve_ends := mf_curve_ends m_curve_Plane m_curve_scaled l_curve_ends_4
theorem sp_curve_ends : SpecOK Try.prog (C_curve_ends_0 m_curve_Plane m_curve_scaled) := specOK_of rfl ⟨r_curve_Plane, r_curve_scaled, trivial⟩
theorem r_curve_ends : RowOK Try.prog (119, spOf sig_curve_ends osig_curve_ends m_curve_ends) := row_of (C := (C_curve_ends_1 m_curve_Plane m_curve_scaled l_curve_ends_4)) (L := 64) (by kernel_rfl) ((FnOK.bare rfl rfl rfl).loop sp_curve_ends eqOk mixOk (by kernel_rfl) (by kernel_rfl)) sp_curve_ends eqOk mixOk (by kernel_rfl) (by kernel_rfl)
def sig_wide_Cmp : Sk := { tmps := [tf [ci], tf [ci], tf [ci], tf [ci]], boxes := [], rows := [] }
def osig_wide_Cmp : Sk := { tmps := [tf [ci]], boxes := [], rows := [] }
def C_wide_Cmp_0 (M_wide_compare M_wide_product M_wide_size M_wide_sign : Fn) : Cfg := { spec := lookS [(105, spOf sig_wide_compare osig_wide_compare M_wide_compare), (106, spOf sig_wide_product osig_wide_product M_wide_product), (107, spOf sig_wide_size osig_wide_size M_wide_size), (104, spOf sig_wide_sign osig_wide_sign M_wide_sign)], eqOk := eqAll, ownOff := ownOff }
def mf_wide_Cmp (M_wide_compare M_wide_product M_wide_size M_wide_sign : Fn) : Fn := modelF Try.prog (C_wide_Cmp_0 M_wide_compare M_wide_product M_wide_size M_wide_sign) 64 57 sig_wide_Cmp osig_wide_Cmp
theorem mf_wide_Cmp_eq (M_wide_compare M_wide_product M_wide_size M_wide_sign : Fn) (x0 x1 x2 x3 : Int) : mf_wide_Cmp M_wide_compare M_wide_product M_wide_size M_wide_sign [I x0, I x1, I x2, I x3] =
 (M_wide_sign [I x0, I x1]).bind fun o9 =>
 (M_wide_sign [I x2, I x3]).bind fun o10 =>
 bif gA o9 0 != gA o10 0 then
 bif decide (gA o9 0 < gA o10 0) then
 some [I (-1)]
 else
 some [I 1]
 else
 (M_wide_size [I x0]).bind fun o11 =>
 (M_wide_size [I x1]).bind fun o12 =>
 (M_wide_product [U (gA o11 0), U (gA o12 0)]).bind fun o13 =>
 (M_wide_size [I x2]).bind fun o14 =>
 (M_wide_size [I x3]).bind fun o15 =>
 (M_wide_product [U (gA o14 0), U (gA o15 0)]).bind fun o16 =>
 (M_wide_compare [U (gA o13 0), U (gA o13 1), U (gA o16 0), U (gA o16 1)]).bind fun o17 =>
 some [I (IntKind.i64.wrap (gA o9 0 * gA o17 0))] := by kernel_rfl
def m_wide_Cmp := mf_wide_Cmp m_wide_compare m_wide_product m_wide_size m_wide_sign 
theorem sp_wide_Cmp : SpecOK Try.prog (C_wide_Cmp_0 m_wide_compare m_wide_product m_wide_size m_wide_sign) := specOK_of rfl ⟨r_wide_compare, r_wide_product, r_wide_size, r_wide_sign, trivial⟩
theorem r_wide_Cmp : RowOK Try.prog (57, spOf sig_wide_Cmp osig_wide_Cmp m_wide_Cmp) := row_of (C := (C_wide_Cmp_0 m_wide_compare m_wide_product m_wide_size m_wide_sign)) (L := 64) (by kernel_rfl) (FnOK.bare rfl rfl rfl) sp_wide_Cmp eqOk mixOk (by kernel_rfl) (by kernel_rfl)
def sig_curve_near : Sk := { tmps := [tf [ci], tf [ci]], boxes := [], rows := [] }
def osig_curve_near : Sk := { tmps := [tf [CS.bool]], boxes := [], rows := [] }
def C_curve_near_0 (M_wide_Cmp : Fn) : Cfg := { spec := lookS [(57, spOf sig_wide_Cmp osig_wide_Cmp M_wide_Cmp)], eqOk := eqAll, ownOff := ownOff }
def mf_curve_near (M_wide_Cmp : Fn) : Fn := modelF Try.prog (C_curve_near_0 M_wide_Cmp) 64 121 sig_curve_near osig_curve_near
theorem mf_curve_near_eq (M_wide_Cmp : Fn) (x0 x1 : Int) : mf_curve_near M_wide_Cmp [I x0, I x1] =
 bif decide (IntKind.i64.wrap (IntKind.i64.wrap (mx x0 x1 - mn x0 x1) - 16) <= 0) then
 some [B true]
 else
 (M_wide_Cmp [I (IntKind.i64.wrap (IntKind.i64.wrap (mx x0 x1 - mn x0 x1) - 16)), I (IntKind.i64.wrap (IntKind.i64.wrap (mx x0 x1 - mn x0 x1) - 16)), I 64, I (mn x0 x1)]).bind fun o1 =>
 some [B (decide (gA o1 0 <= 0))] := by kernel_rfl
def m_curve_near := mf_curve_near m_wide_Cmp 
theorem sp_curve_near : SpecOK Try.prog (C_curve_near_0 m_wide_Cmp) := specOK_of rfl ⟨r_wide_Cmp, trivial⟩
theorem r_curve_near : RowOK Try.prog (121, spOf sig_curve_near osig_curve_near m_curve_near) := row_of (C := (C_curve_near_0 m_wide_Cmp)) (L := 64) (by kernel_rfl) (FnOK.bare rfl rfl rfl) sp_curve_near eqOk mixOk (by kernel_rfl) (by kernel_rfl)
def sig_curve_within : Sk := { tmps := [TS.v true [ci, ci, ci]], boxes := [], rows := [] }
def osig_curve_within : Sk := { tmps := [tf [CS.bool]], boxes := [], rows := [] }
def C_curve_within_0 : Cfg := { spec := lookS [], eqOk := eqAll, ownOff := ownOff, unroll := [2] }
def mf_curve_within : Fn := modelF Try.prog C_curve_within_0 64 117 sig_curve_within osig_curve_within
theorem mf_curve_within_eq (x0 x1 x2 : Int) : mf_curve_within [I x0, I x1, I x2] =
 bif decide (x0 < -1048576) then
 some [B false]
 else
 bif decide (x0 > 1048576) then
 some [B false]
 else
 bif decide (x1 < -1048576) then
 some [B false]
 else
 bif decide (x1 > 1048576) then
 some [B false]
 else
 bif decide (x2 < -1048576) then
 some [B false]
 else
 bif decide (x2 > 1048576) then
 some [B false]
 else
 some [B true] := by kernel_rfl
def m_curve_within := mf_curve_within 
theorem sp_curve_within : SpecOK Try.prog (C_curve_within_0 ) := specOK_of rfl trivial
theorem r_curve_within : RowOK Try.prog (117, spOf sig_curve_within osig_curve_within m_curve_within) := row_of (C := C_curve_within_0) (L := 64) (by kernel_rfl) (FnOK.bare rfl rfl rfl) sp_curve_within eqOk mixOk (by kernel_rfl) (by kernel_rfl)
def sig_curve_Valid : Sk := { tmps := [TS.v true [ci, ci, ci, ci, ci, ci, ci, ci, ci, ci, ci, ci, ci, CS.bool, ci, CS.bool, ci, ci, ci, ci, ci, CS.bool]], boxes := [], rows := [] }
def osig_curve_Valid : Sk := { tmps := [tf [CS.bool]], boxes := [], rows := [] }
def C_curve_Valid_0 (M_curve_cross M_curve_near M_curve_dot M_curve_ends M_curve_axes M_curve_within : Fn) : Cfg := { spec := lookS [(122, spOf sig_curve_cross osig_curve_cross M_curve_cross), (121, spOf sig_curve_near osig_curve_near M_curve_near), (120, spOf sig_curve_dot osig_curve_dot M_curve_dot), (119, spOf sig_curve_ends osig_curve_ends M_curve_ends), (118, spOf sig_curve_axes osig_curve_axes M_curve_axes), (117, spOf sig_curve_within osig_curve_within M_curve_within)], eqOk := eqAll, ownOff := ownOff }
def mf_curve_Valid (M_curve_cross M_curve_near M_curve_dot M_curve_ends M_curve_axes M_curve_within : Fn) : Fn := modelF Try.prog (C_curve_Valid_0 M_curve_cross M_curve_near M_curve_dot M_curve_ends M_curve_axes M_curve_within) 64 66 sig_curve_Valid osig_curve_Valid
abbrev g_curve_Valid_1 (M_curve_within : Fn) (x9 x10 x11 : Int) (M_curve_ends : Fn) (x0 x1 x2 x3 x4 x5 x6 x7 x8 x12 : Int) (x13 : Bool) (x14 : Int) (x15 : Bool) (x16 x17 x18 x19 x20 : Int) (x21 : Bool) (M_curve_dot M_curve_near M_curve_cross : Fn) : Option (List AC) :=
 (M_curve_within [I x9, I x10, I x11]).bind fun o20 =>
 bif !bA o20 0 then
 some [B false]
 else
 (M_curve_ends [I x0, I x1, I x2, I x3, I x4, I x5, I x6, I x7, I x8, I x9, I x10, I x11, I x12, B x13, I x14, B x15, I x16, I x17, I x18, I x19, I x20, B x21]).bind fun o21 =>
 (M_curve_dot [jA o21 0, jA o21 1, jA o21 2, jA o21 3, jA o21 0, jA o21 1, jA o21 2, jA o21 3]).bind fun o22 =>
 (M_curve_dot [jA o21 4, jA o21 5, jA o21 6, jA o21 7, jA o21 4, jA o21 5, jA o21 6, jA o21 7]).bind fun o23 =>
 bif decide (gA o22 0 < IntKind.i64.wrap (128 * 128)) then
 some [B false]
 else
 bif decide (gA o23 0 < IntKind.i64.wrap (128 * 128)) then
 some [B false]
 else
 (M_curve_near [I (IntKind.i64.wrap ((gA o22 0).tdiv 256)), I (IntKind.i64.wrap ((gA o23 0).tdiv 256))]).bind fun o24 =>
 bif !bA o24 0 then
 some [B false]
 else
 bif x13 then
 bif gA o21 0 == gA o21 4 then
 some [B (gA o21 1 == gA o21 5)]
 else
 some [B false]
 else
 (M_curve_cross [jA o21 0, jA o21 1, jA o21 2, jA o21 3, jA o21 4, jA o21 5, jA o21 6, jA o21 7]).bind fun o25 =>
 bif gA o25 0 != 0 then
 some [B true]
 else
 (M_curve_dot [jA o21 0, jA o21 1, jA o21 2, jA o21 3, jA o21 4, jA o21 5, jA o21 6, jA o21 7]).bind fun o26 =>
 some [B (decide (gA o26 0 < 0))]
attribute [go_sem] g_curve_Valid_1
theorem mf_curve_Valid_eq (M_curve_cross M_curve_near M_curve_dot M_curve_ends M_curve_axes M_curve_within : Fn) (x0 x1 x2 x3 x4 x5 x6 x7 x8 x9 x10 x11 x12 : Int) (x13 : Bool) (x14 : Int) (x15 : Bool) (x16 x17 x18 x19 x20 : Int) (x21 : Bool) : mf_curve_Valid M_curve_cross M_curve_near M_curve_dot M_curve_ends M_curve_axes M_curve_within [I x0, I x1, I x2, I x3, I x4, I x5, I x6, I x7, I x8, I x9, I x10, I x11, I x12, B x13, I x14, B x15, I x16, I x17, I x18, I x19, I x20, B x21] =
 bif decide (x0 < 1) then
 some [B false]
 else
 bif decide (x0 > 6) then
 some [B false]
 else
 (M_curve_within [I x2, I x3, I x4]).bind fun o17 =>
 bif !bA o17 0 then
 some [B false]
 else
 (M_curve_within [I x5, I x6, I x7]).bind fun o18 =>
 bif !bA o18 0 then
 some [B false]
 else
 bif x0 != 3 then
 some [B true]
 else
 (M_curve_axes [I x8]).bind fun o19 =>
 bif !bA o19 3 then
 some [B false]
 else
 bif x12 != 1 then
 bif x12 != -1 then
 some [B false]
 else
 g_curve_Valid_1 M_curve_within x9 x10 x11 M_curve_ends x0 x1 x2 x3 x4 x5 x6 x7 x8 x12 x13 x14 x15 x16 x17 x18 x19 x20 x21 M_curve_dot M_curve_near M_curve_cross
 else
 g_curve_Valid_1 M_curve_within x9 x10 x11 M_curve_ends x0 x1 x2 x3 x4 x5 x6 x7 x8 x12 x13 x14 x15 x16 x17 x18 x19 x20 x21 M_curve_dot M_curve_near M_curve_cross := by kernel_rfl
def m_curve_Valid := mf_curve_Valid m_curve_cross m_curve_near m_curve_dot m_curve_ends m_curve_axes m_curve_within 
theorem sp_curve_Valid : SpecOK Try.prog (C_curve_Valid_0 m_curve_cross m_curve_near m_curve_dot m_curve_ends m_curve_axes m_curve_within) := specOK_of rfl ⟨r_curve_cross, r_curve_near, r_curve_dot, r_curve_ends, r_curve_axes, r_curve_within, trivial⟩
theorem r_curve_Valid : RowOK Try.prog (66, spOf sig_curve_Valid osig_curve_Valid m_curve_Valid) := row_of (C := (C_curve_Valid_0 m_curve_cross m_curve_near m_curve_dot m_curve_ends m_curve_axes m_curve_within)) (L := 64) (by kernel_rfl) (FnOK.bare rfl rfl rfl) sp_curve_Valid eqOk mixOk (by kernel_rfl) (by kernel_rfl)
end Go.Bm
