/- functions of the program and of the references, as models -/
import Derived.Test.YtdllaekpkcanbaaSeShelf
import Derived.Test.YtdllaekpkcanbaaSeExt
import Derived.Test.YtdllaekpkcanbaaSePre
import Derived.Test.YtdllaekpkcanbaaBmTy
set_option linter.unusedSimpArgs false
set_option linter.unusedVariables false
set_option maxRecDepth 100000
noncomputable section
namespace Go.Bm
open Go.Proofs
def Qir : Sk := { tmps := [TS.v true [ci, ci, ci, ci, ci, ci, ci, ci, ci, CS.sl Qac], tf [ci]], boxes := [], rows := [] }
def Qhh : Sk := { tmps := [tf [ci]], boxes := [], rows := [] }
def Qm9 : Cfg := { spec := Qbq [], eqOk := Qbu, ownOff := ownOff }
def mf_backlash_Shift : Fn := Qau Try.prog Qm9 64 90 Qir Qhh
theorem mf_backlash_Shift_eq (x0 x1 x2 x3 x4 x5 x6 x7 x8 : Int) (x9 : Rw) (x10 : Int) : mf_backlash_Shift [I x0, I x1, I x2, I x3, I x4, I x5, I x6, I x7, I x8, .view Qac x9, I x10] =
 bif x10 == -1 then
 some [I (IntKind.i64.wrap (0 - x6))]
 else
 some [I 0] := by kernel_rfl
def Qdu := mf_backlash_Shift 
theorem sp_backlash_Shift : Qar Try.prog (Qm9 ) := Qae rfl trivial
theorem r_backlash_Shift : Qbt Try.prog (90, spOf Qir Qhh Qdu) := Qa5 (C := Qm9) (L := 64) (by kernel_rfl) (FnOK.bare rfl rfl rfl) sp_backlash_Shift eqOk Qbj (by kernel_rfl) (by kernel_rfl)
def sig_track_shift : Sk := { tmps := [TS.v true [ci, ci, ci, ci, ci, ci, ci, ci, ci, CS.sl Qac], TS.v true [ci, ci, ci, ci, ci, ci, ci, ci, ci, ci], tf [ci], tf [ci]], boxes := [], rows := [] }
def osig_track_shift : Sk := { tmps := [tf [ci]], boxes := [], rows := [] }
def C_track_shift_0 (Qah : Fn) : Cfg := { spec := Qbq [(90, spOf Qir Qhh Qah)], eqOk := Qbu, ownOff := ownOff }
def Qkx (Qah : Fn) : Fn := Qau Try.prog (C_track_shift_0 Qah) 64 91 sig_track_shift osig_track_shift
abbrev g_track_shift_3 (x20 : Int) (Qah : Fn) (x0 x1 x2 x3 x4 x5 x6 x7 x8 : Int) (x9 : Rw) (x17 x18 x19 : Int) : Option (List AC) :=
 bif decide (x20 = (↑0 : Int)) then
 (Qah [I x0, I x1, I x2, I x3, I x4, I x5, I x6, I x7, I x8, .view Qac x9, I x17]).bind fun o30 =>
 some [jA o30 0]
 else
 bif decide (x20 = (↑(0 + 1) : Int)) then
 (Qah [I x0, I x1, I x2, I x3, I x4, I x5, I x6, I x7, I x8, .view Qac x9, I x18]).bind fun o31 =>
 some [jA o31 0]
 else
 bif decide (x20 = (↑(0 + 1 + 1) : Int)) then
 (Qah [I x0, I x1, I x2, I x3, I x4, I x5, I x6, I x7, I x8, .view Qac x9, I x19]).bind fun o32 =>
 some [jA o32 0]
 else
 none
attribute [go_sem] g_track_shift_3
abbrev Qna (x21 x10 x6 : Int) (h4_0 : Bool) : Option (List AC) :=
 bif h4_0 then
 some [I (IntKind.i64.wrap (0 - mn (IntKind.i64.wrap (x21 - x10)) x6))]
 else
 some [I (IntKind.i64.wrap (mn (IntKind.i64.wrap (x21 - x10)) x6 - x6))]
attribute [go_sem] Qna
abbrev Qmx (x20 : Int) (Qah : Fn) (x0 x1 x2 x3 x4 x5 x6 x7 x8 : Int) (x9 : Rw) (x17 x18 x19 x21 x10 : Int) (h1_0 : Bool) : Option (List AC) :=
 bif h1_0 then
 g_track_shift_3 x20 Qah x0 x1 x2 x3 x4 x5 x6 x7 x8 x9 x17 x18 x19
 else
 bif decide (x20 = (↑0 : Int)) then
 Qna x21 x10 x6 (x17 == -1)
 else
 bif decide (x20 = (↑(0 + 1) : Int)) then
 Qna x21 x10 x6 (x18 == -1)
 else
 bif decide (x20 = (↑(0 + 1 + 1) : Int)) then
 Qna x21 x10 x6 (x19 == -1)
 else
 none
attribute [go_sem] Qmx
abbrev g_track_shift_2 (x20 : Int) (Qah : Fn) (x0 x1 x2 x3 x4 x5 x6 x7 x8 : Int) (x9 : Rw) (x17 x18 x19 x21 x10 : Int) (h2_0 h2_1 h2_2 : Bool) : Option (List AC) :=
 bif decide (x20 = (↑0 : Int)) then
 Qmx x20 Qah x0 x1 x2 x3 x4 x5 x6 x7 x8 x9 x17 x18 x19 x21 x10 h2_0
 else
 bif decide (x20 = (↑(0 + 1) : Int)) then
 Qmx x20 Qah x0 x1 x2 x3 x4 x5 x6 x7 x8 x9 x17 x18 x19 x21 x10 h2_1
 else
 bif decide (x20 = (↑(0 + 1 + 1) : Int)) then
 Qmx x20 Qah x0 x1 x2 x3 x4 x5 x6 x7 x8 x9 x17 x18 x19 x21 x10 h2_2
 else
 none
attribute [go_sem] g_track_shift_2
theorem mf_track_shift_eq (Qah : Fn) (x0 x1 x2 x3 x4 x5 x6 x7 x8 : Int) (x9 : Rw) (x10 x11 x12 x13 x14 x15 x16 x17 x18 x19 x20 x21 : Int) : Qkx Qah [I x0, I x1, I x2, I x3, I x4, I x5, I x6, I x7, I x8, .view Qac x9, I x10, I x11, I x12, I x13, I x14, I x15, I x16, I x17, I x18, I x19, I x20, I x21] =
 bif x13 != 0 then
 g_track_shift_3 x20 Qah x0 x1 x2 x3 x4 x5 x6 x7 x8 x9 x17 x18 x19
 else
 bif decide (x20 = (↑0 : Int)) then
 g_track_shift_2 x20 Qah x0 x1 x2 x3 x4 x5 x6 x7 x8 x9 x17 x18 x19 x21 x10 (x14 == x17) (x14 == x18) (x14 == x19)
 else
 bif decide (x20 = (↑(0 + 1) : Int)) then
 g_track_shift_2 x20 Qah x0 x1 x2 x3 x4 x5 x6 x7 x8 x9 x17 x18 x19 x21 x10 (x15 == x17) (x15 == x18) (x15 == x19)
 else
 bif decide (x20 = (↑(0 + 1 + 1) : Int)) then
 g_track_shift_2 x20 Qah x0 x1 x2 x3 x4 x5 x6 x7 x8 x9 x17 x18 x19 x21 x10 (x16 == x17) (x16 == x18) (x16 == x19)
 else
 none := by kernel_rfl
def m_track_shift := Qkx Qdu 
theorem sp_track_shift : Qar Try.prog (C_track_shift_0 Qdu) := Qae rfl ⟨r_backlash_Shift, trivial⟩
theorem r_track_shift : Qbt Try.prog (91, spOf sig_track_shift osig_track_shift m_track_shift) := Qa5 (C := (C_track_shift_0 Qdu)) (L := 64) (by kernel_rfl) (FnOK.bare rfl rfl rfl) sp_track_shift eqOk Qbj (by kernel_rfl) (by kernel_rfl)
def sig_axis_Steps : Sk := { tmps := [TS.v true [ci, ci, ci, ci, ci, ci, ci, ci, ci, CS.sl Qac], tf [ci]], boxes := [], rows := [] }
def osig_axis_Steps : Sk := { tmps := [tf [ci]], boxes := [], rows := [] }
def C_axis_Steps_0 : Cfg := { spec := Qbq [], eqOk := Qbu, ownOff := ownOff }
def mf_axis_Steps : Fn := Qau Try.prog C_axis_Steps_0 64 132 sig_axis_Steps osig_axis_Steps
theorem mf_axis_Steps_eq (x0 x1 x2 x3 x4 x5 x6 x7 x8 : Int) (x9 : Rw) (x10 : Int) : mf_axis_Steps [I x0, I x1, I x2, I x3, I x4, I x5, I x6, I x7, I x8, .view Qac x9, I x10] =
 bif decide (x0 <= 0) then
 some [I 0]
 else
 bif decide (IntKind.i64.wrap (2 * x0) <= 0) then
 some [I 0]
 else
 bif decide (IntKind.i64.wrap (2 * x0) = 0) then
 none
 else
 bif decide (IntKind.i64.wrap (2 * x0) = 0) then
 none
 else
 bif decide ((IntKind.i64.wrap (IntKind.i64.wrap (2 * x10) + x0)).tmod (IntKind.i64.wrap (2 * x0)) < 0) then
 some [I (IntKind.i64.wrap (IntKind.i64.wrap ((IntKind.i64.wrap (IntKind.i64.wrap (2 * x10) + x0)).tdiv (IntKind.i64.wrap (2 * x0))) - 1))]
 else
 some [I (IntKind.i64.wrap ((IntKind.i64.wrap (IntKind.i64.wrap (2 * x10) + x0)).tdiv (IntKind.i64.wrap (2 * x0))))] := by kernel_rfl
def Qg9 := mf_axis_Steps 
theorem sp_axis_Steps : Qar Try.prog (C_axis_Steps_0 ) := Qae rfl trivial
theorem r_axis_Steps : Qbt Try.prog (132, spOf sig_axis_Steps osig_axis_Steps Qg9) := Qa5 (C := C_axis_Steps_0) (L := 64) (by kernel_rfl) (FnOK.bare rfl rfl rfl) sp_axis_Steps eqOk Qbj (by kernel_rfl) (by kernel_rfl)
def Qjj : Sk := { tmps := [tf [CS.int .u64], tf [CS.bool]], boxes := [], rows := [] }
def Qht : Sk := { tmps := [TS.tup [(false, [ci]), (false, [CS.bool])]], boxes := [], rows := [] }
def C_wide_signed_0 : Cfg := { spec := Qbq [], eqOk := Qbu, ownOff := ownOff }
def mf_wide_signed : Fn := Qau Try.prog C_wide_signed_0 64 146 Qjj Qht
theorem mf_wide_signed_eq (x0 : Int) (x1 : Bool) : mf_wide_signed [U x0, B x1] =
 bif x1 then
 bif decide (x0 <= 9223372036854775808) then
 some [I (IntKind.i64.wrap (IntKind.u64.wrap (0 - x0))), B true]
 else
 bif !x1 then
 bif decide (x0 < 9223372036854775808) then
 some [I (IntKind.i64.wrap x0), B true]
 else
 some [I 0, B false]
 else
 some [I 0, B false]
 else
 bif !x1 then
 bif decide (x0 < 9223372036854775808) then
 some [I (IntKind.i64.wrap x0), B true]
 else
 some [I 0, B false]
 else
 some [I 0, B false] := by kernel_rfl
def Qcn := mf_wide_signed 
theorem sp_wide_signed : Qar Try.prog (C_wide_signed_0 ) := Qae rfl trivial
theorem r_wide_signed : Qbt Try.prog (146, spOf Qjj Qht Qcn) := Qa5 (C := C_wide_signed_0) (L := 64) (by kernel_rfl) (FnOK.bare rfl rfl rfl) sp_wide_signed eqOk Qbj (by kernel_rfl) (by kernel_rfl)
def sig_wide_grows : Sk := { tmps := [tf [ci], tf [ci], tf [CS.bool], tf [CS.bool]], boxes := [], rows := [] }
def Qmp : Sk := { tmps := [tf [CS.bool]], boxes := [], rows := [] }
def C_wide_grows_0 : Cfg := { spec := Qbq [], eqOk := Qbu, ownOff := ownOff }
def mf_wide_grows : Fn := Qau Try.prog C_wide_grows_0 64 145 sig_wide_grows Qmp
theorem mf_wide_grows_eq (x0 x1 : Int) (x2 x3 : Bool) : mf_wide_grows [I x0, I x1, B x2, B x3] =
 bif x0 == 0 then
 bif x2 then
 some [B x3]
 else
 some [B false]
 else
 bif x0 == 1 then
 bif x2 then
 some [B !x3]
 else
 some [B false]
 else
 bif decide (x1 > 0) then
 some [B true]
 else
 bif x1 == 0 then
 some [B !x3]
 else
 some [B false] := by kernel_rfl
def Qe9 := mf_wide_grows 
theorem sp_wide_grows : Qar Try.prog (C_wide_grows_0 ) := Qae rfl trivial
theorem r_wide_grows : Qbt Try.prog (145, spOf sig_wide_grows Qmp Qe9) := Qa5 (C := C_wide_grows_0) (L := 64) (by kernel_rfl) (FnOK.bare rfl rfl rfl) sp_wide_grows eqOk Qbj (by kernel_rfl) (by kernel_rfl)
def sig_wide_sign : Sk := { tmps := [tf [ci], tf [ci]], boxes := [], rows := [] }
def Qkv : Sk := { tmps := [tf [ci]], boxes := [], rows := [] }
def C_wide_sign_0 : Cfg := { spec := Qbq [], eqOk := Qbu, ownOff := ownOff }
def mf_wide_sign : Fn := Qau Try.prog C_wide_sign_0 64 104 sig_wide_sign Qkv
theorem mf_wide_sign_eq (x0 x1 : Int) : mf_wide_sign [I x0, I x1] =
 bif x0 == 0 then
 some [I 0]
 else
 bif x1 == 0 then
 some [I 0]
 else
 bif decide (x0 < 0) == decide (x1 < 0) then
 some [I 1]
 else
 some [I (-1)] := by kernel_rfl
def Qem := mf_wide_sign 
theorem sp_wide_sign : Qar Try.prog (C_wide_sign_0 ) := Qae rfl trivial
theorem r_wide_sign : Qbt Try.prog (104, spOf sig_wide_sign Qkv Qem) := Qa5 (C := C_wide_sign_0) (L := 64) (by kernel_rfl) (FnOK.bare rfl rfl rfl) sp_wide_sign eqOk Qbj (by kernel_rfl) (by kernel_rfl)
def sig_bits_Div64 : Sk := { tmps := [tf [CS.int .u64], tf [CS.int .u64], tf [CS.int .u64]], boxes := [], rows := [] }
def Qmw : Sk := { tmps := [TS.tup [(false, [CS.int .u64]), (false, [CS.int .u64])]], boxes := [], rows := [] }
def C_bits_Div64_0 (Qap : Fn) : Cfg := { spec := Qbq [(164, spOf Qe8 Qev Qap)], eqOk := Qbu, ownOff := ownOff }
def sk_bits_Div64_17 : Sk := { tmps := [td, td, tf [CS.int .u64], td, td, td, td, td, tf [CS.int .u64], tf [CS.int .u64], tf [CS.int .u64], tf [CS.int .u64], td, tf [CS.int .u64], tf [CS.int .u64], tf [CS.int .u64], tf [CS.int .u64]] ++ dd 118, boxes := [], rows := [] }
def ex_bits_Div64_17 : List (Ex × Sk) := [(Ex.exit 0, { tmps := [td, td, tf [CS.int .u64], td, td, td, td, td, tf [CS.int .u64], tf [CS.int .u64], tf [CS.int .u64], tf [CS.int .u64], td, tf [CS.int .u64], tf [CS.int .u64], tf [CS.int .u64]] ++ dd 119, boxes := [], rows := [] })]
def Qez (Qap : Fn) : Lp := stepL Try.prog (C_bits_Div64_0 Qap) 64 17 (Qg8 Try.prog 144 17) sk_bits_Div64_17 ex_bits_Div64_17
def C_bits_Div64_1 (Qap : Fn) (N17 : Lp) : Cfg := (C_bits_Div64_0 Qap).loop 17 sk_bits_Div64_17 ex_bits_Div64_17 N17
def sk_bits_Div64_24 : Sk := { tmps := [td, td, tf [CS.int .u64], td, td, td, td, td, tf [CS.int .u64], tf [CS.int .u64], tf [CS.int .u64], td, td, td, tf [CS.int .u64], tf [CS.int .u64], tf [CS.int .u64], tf [CS.int .u64], tf [CS.int .u64]] ++ dd 116, boxes := [], rows := [] }
def ex_bits_Div64_24 : List (Ex × Sk) := [(Ex.exit 2, { tmps := [td, td, tf [CS.int .u64], td, td, td, td, td, tf [CS.int .u64], td, td, td, td, td, tf [CS.int .u64], tf [CS.int .u64], td, tf [CS.int .u64], tf [CS.int .u64]] ++ dd 116, boxes := [], rows := [] })]
def Qhx (Qap : Fn) (N17 : Lp) : Lp := stepL Try.prog (C_bits_Div64_1 Qap N17) 64 24 (Qg8 Try.prog 144 24) sk_bits_Div64_24 ex_bits_Div64_24
def C_bits_Div64_2 (Qap : Fn) (N17 N24 : Lp) : Cfg := (C_bits_Div64_1 Qap N17).loop 24 sk_bits_Div64_24 ex_bits_Div64_24 N24
def mf_bits_Div64 (Qap : Fn) (N17 N24 : Lp) : Fn := Qau Try.prog (C_bits_Div64_2 Qap N17 N24) 64 144 sig_bits_Div64 Qmw
theorem st_bits_Div64_17_eq (Qap : Fn) (v0 v1 v2 v3 v4 v5 v6 v7 v8 : Int) : Qez Qap [U v0, U v1, U v2, U v3, U v4, U v5, U v6, U v7, U v8] =
 bif decide (v7 >= 4294967296) then
 bif decide (IntKind.u64.wrap (v8 + v2) >= 4294967296) then
 some (1, [U v0, U v1, U v2, U v3, U v4, U v5, U v6, U (IntKind.u64.wrap (v7 - 1))])
 else
 some (0, [U v0, U v1, U v2, U v3, U v4, U v5, U v6, U (IntKind.u64.wrap (v7 - 1)), U (IntKind.u64.wrap (v8 + v2))])
 else
 bif decide (IntKind.u64.wrap (v7 * v3) > IntKind.u64.wrap (IntKind.u64.wrap (4294967296 * v8) + v5)) then
 bif decide (IntKind.u64.wrap (v8 + v2) >= 4294967296) then
 some (1, [U v0, U v1, U v2, U v3, U v4, U v5, U v6, U (IntKind.u64.wrap (v7 - 1))])
 else
 some (0, [U v0, U v1, U v2, U v3, U v4, U v5, U v6, U (IntKind.u64.wrap (v7 - 1)), U (IntKind.u64.wrap (v8 + v2))])
 else
 some (1, [U v0, U v1, U v2, U v3, U v4, U v5, U v6, U v7]) := by kernel_rfl
theorem st_bits_Div64_24_eq (Qap : Fn) (N17 : Lp) (v0 v1 v2 v3 v4 v5 v6 v7 v8 : Int) : Qhx Qap N17 [U v0, U v1, U v2, U v3, U v4, U v5, U v6, U v7, U v8] =
 bif decide (v8 >= 4294967296) then
 bif decide (IntKind.u64.wrap (v6 + v2) >= 4294967296) then
 some (1, [U v0, U v1, U v4, U v5, U v7, U (IntKind.u64.wrap (v8 - 1))])
 else
 some (0, [U v0, U v1, U v2, U v3, U v4, U v5, U (IntKind.u64.wrap (v6 + v2)), U v7, U (IntKind.u64.wrap (v8 - 1))])
 else
 bif decide (IntKind.u64.wrap (v8 * v3) > IntKind.u64.wrap (IntKind.u64.wrap (4294967296 * v6) + v4)) then
 bif decide (IntKind.u64.wrap (v6 + v2) >= 4294967296) then
 some (1, [U v0, U v1, U v4, U v5, U v7, U (IntKind.u64.wrap (v8 - 1))])
 else
 some (0, [U v0, U v1, U v2, U v3, U v4, U v5, U (IntKind.u64.wrap (v6 + v2)), U v7, U (IntKind.u64.wrap (v8 - 1))])
 else
 some (1, [U v0, U v1, U v4, U v5, U v7, U v8]) := by kernel_rfl
theorem mf_bits_Div64_eq (Qap : Fn) (N17 N24 : Lp) (x0 x1 x2 : Int) : mf_bits_Div64 Qap N17 N24 [U x0, U x1, U x2] =
 bif x2 == 0 then
 none
 else
 bif decide (x2 <= x0) then
 none
 else
 bif x0 == 0 then
 bif decide (x2 = 0) then
 none
 else
 bif decide (x2 = 0) then
 none
 else
 some [U (IntKind.u64.wrap (x1.tdiv x2)), U (x1.tmod x2)]
 else
 (Qap [U x2]).bind fun o6 =>
 bif decide (IntKind.u64.wrap (gA o6 0) < 0) then
 none
 else
 bif decide (IntKind.u64.wrap (gA o6 0) < 0) then
 none
 else
 bif decide (IntKind.u64.wrap (64 - IntKind.u64.wrap (gA o6 0)) < 0) then
 none
 else
 bif decide (IntKind.u64.wrap (gA o6 0) < 0) then
 none
 else
 bif decide ((IntKind.u64.wrap (x2 * 2 ^ min (IntKind.u64.wrap (gA o6 0)).toNat IntKind.u64.bits)).fdiv (2 ^ min (Int.toNat 32) IntKind.u64.bits) = 0) then
 none
 else
 (N17 [U (IntKind.u64.wrap (x2 * 2 ^ min (IntKind.u64.wrap (gA o6 0)).toNat IntKind.u64.bits)), U (IntKind.u64.wrap (gA o6 0)), U ((IntKind.u64.wrap (x2 * 2 ^ min (IntKind.u64.wrap (gA o6 0)).toNat IntKind.u64.bits)).fdiv (2 ^ min (Int.toNat 32) IntKind.u64.bits)), U (IntKind.u64.wrap (↑(BitVec.ofInt IntKind.u64.bits (IntKind.u64.wrap (x2 * 2 ^ min (IntKind.u64.wrap (gA o6 0)).toNat IntKind.u64.bits)) &&& BitVec.ofInt IntKind.u64.bits 4294967295).toNat : Int)), U (IntKind.u64.wrap (↑(BitVec.ofInt IntKind.u64.bits (IntKind.u64.wrap (x0 * 2 ^ min (IntKind.u64.wrap (gA o6 0)).toNat IntKind.u64.bits)) ||| BitVec.ofInt IntKind.u64.bits (x1.fdiv (2 ^ min (IntKind.u64.wrap (64 - IntKind.u64.wrap (gA o6 0))).toNat IntKind.u64.bits))).toNat : Int)), U ((IntKind.u64.wrap (x1 * 2 ^ min (IntKind.u64.wrap (gA o6 0)).toNat IntKind.u64.bits)).fdiv (2 ^ min (Int.toNat 32) IntKind.u64.bits)), U (IntKind.u64.wrap (↑(BitVec.ofInt IntKind.u64.bits (IntKind.u64.wrap (x1 * 2 ^ min (IntKind.u64.wrap (gA o6 0)).toNat IntKind.u64.bits)) &&& BitVec.ofInt IntKind.u64.bits 4294967295).toNat : Int)), U (IntKind.u64.wrap ((IntKind.u64.wrap (↑(BitVec.ofInt IntKind.u64.bits (IntKind.u64.wrap (x0 * 2 ^ min (IntKind.u64.wrap (gA o6 0)).toNat IntKind.u64.bits)) ||| BitVec.ofInt IntKind.u64.bits (x1.fdiv (2 ^ min (IntKind.u64.wrap (64 - IntKind.u64.wrap (gA o6 0))).toNat IntKind.u64.bits))).toNat : Int)).tdiv ((IntKind.u64.wrap (x2 * 2 ^ min (IntKind.u64.wrap (gA o6 0)).toNat IntKind.u64.bits)).fdiv (2 ^ min (Int.toNat 32) IntKind.u64.bits)))), U (IntKind.u64.wrap (IntKind.u64.wrap (↑(BitVec.ofInt IntKind.u64.bits (IntKind.u64.wrap (x0 * 2 ^ min (IntKind.u64.wrap (gA o6 0)).toNat IntKind.u64.bits)) ||| BitVec.ofInt IntKind.u64.bits (x1.fdiv (2 ^ min (IntKind.u64.wrap (64 - IntKind.u64.wrap (gA o6 0))).toNat IntKind.u64.bits))).toNat : Int) - IntKind.u64.wrap (IntKind.u64.wrap ((IntKind.u64.wrap (↑(BitVec.ofInt IntKind.u64.bits (IntKind.u64.wrap (x0 * 2 ^ min (IntKind.u64.wrap (gA o6 0)).toNat IntKind.u64.bits)) ||| BitVec.ofInt IntKind.u64.bits (x1.fdiv (2 ^ min (IntKind.u64.wrap (64 - IntKind.u64.wrap (gA o6 0))).toNat IntKind.u64.bits))).toNat : Int)).tdiv ((IntKind.u64.wrap (x2 * 2 ^ min (IntKind.u64.wrap (gA o6 0)).toNat IntKind.u64.bits)).fdiv (2 ^ min (Int.toNat 32) IntKind.u64.bits))) * (IntKind.u64.wrap (x2 * 2 ^ min (IntKind.u64.wrap (gA o6 0)).toNat IntKind.u64.bits)).fdiv (2 ^ min (Int.toNat 32) IntKind.u64.bits))))]).bind fun o7 =>
 bif o7.1.beq 1 then
 bif decide (gA o7.2 2 = 0) then
 none
 else
 (N24 [U (gA o7.2 0), U (gA o7.2 1), U (gA o7.2 2), U (gA o7.2 3), U (gA o7.2 6), U (gA o7.2 7), U (IntKind.u64.wrap (IntKind.u64.wrap (IntKind.u64.wrap (IntKind.u64.wrap (gA o7.2 4 * 4294967296) + gA o7.2 5) - IntKind.u64.wrap (gA o7.2 7 * gA o7.2 0)) - IntKind.u64.wrap (IntKind.u64.wrap ((IntKind.u64.wrap (IntKind.u64.wrap (IntKind.u64.wrap (gA o7.2 4 * 4294967296) + gA o7.2 5) - IntKind.u64.wrap (gA o7.2 7 * gA o7.2 0))).tdiv (gA o7.2 2)) * gA o7.2 2))), U (IntKind.u64.wrap (IntKind.u64.wrap (IntKind.u64.wrap (gA o7.2 4 * 4294967296) + gA o7.2 5) - IntKind.u64.wrap (gA o7.2 7 * gA o7.2 0))), U (IntKind.u64.wrap ((IntKind.u64.wrap (IntKind.u64.wrap (IntKind.u64.wrap (gA o7.2 4 * 4294967296) + gA o7.2 5) - IntKind.u64.wrap (gA o7.2 7 * gA o7.2 0))).tdiv (gA o7.2 2)))]).bind fun o8 =>
 bif o8.1.beq 1 then
 bif decide (gA o8.2 1 < 0) then
 none
 else
 some [U (IntKind.u64.wrap (IntKind.u64.wrap (gA o8.2 3 * 4294967296) + gA o8.2 5)), U ((IntKind.u64.wrap (IntKind.u64.wrap (IntKind.u64.wrap (gA o8.2 4 * 4294967296) + gA o8.2 2) - IntKind.u64.wrap (gA o8.2 5 * gA o8.2 0))).fdiv (2 ^ min (gA o8.2 1).toNat IntKind.u64.bits))]
 else
 none
 else
 none := by kernel_rfl
def Qnk := Qby (Qez Qbd )
def l_bits_Div64_24 := Qby (Qhx Qbd Qnk)
def Qef := mf_bits_Div64 Qbd Qnk l_bits_Div64_24
theorem sp_bits_Div64 : Qar Try.prog (C_bits_Div64_0 Qbd) := Qae rfl ⟨r_bits_LeadingZeros64, trivial⟩
theorem r_bits_Div64 : Qbt Try.prog (144, spOf sig_bits_Div64 Qmw Qef) := Qa5 (C := (C_bits_Div64_2 Qbd Qnk l_bits_Div64_24)) (L := 64) (by kernel_rfl) (((FnOK.bare rfl rfl rfl).loop sp_bits_Div64 eqOk Qbj (by kernel_rfl) (by kernel_rfl)).loop sp_bits_Div64 eqOk Qbj (by kernel_rfl) (by kernel_rfl)) sp_bits_Div64 eqOk Qbj (by kernel_rfl) (by kernel_rfl)
def Qfx : Sk := { tmps := [tf [CS.int .u64], tf [CS.int .u64]], boxes := [], rows := [] }
def Qff : Sk := { tmps := [TS.v true [CS.int .u64, CS.int .u64]], boxes := [], rows := [] }
def C_wide_product_0 (Qdz : Fn) : Cfg := { spec := Qbq [(147, spOf Qko Qja Qdz)], eqOk := Qbu, ownOff := ownOff }
def mf_wide_product (Qdz : Fn) : Fn := Qau Try.prog (C_wide_product_0 Qdz) 64 106 Qfx Qff
theorem mf_wide_product_eq (Qdz : Fn) (x0 x1 : Int) : mf_wide_product Qdz [U x0, U x1] =
 (Qdz [U x0, U x1]).bind fun o1 =>
 some [U (gA o1 0), U (gA o1 1)] := by kernel_rfl
def Qbp := mf_wide_product Qeg 
theorem sp_wide_product : Qar Try.prog (C_wide_product_0 Qeg) := Qae rfl ⟨r_bits_Mul64, trivial⟩
theorem r_wide_product : Qbt Try.prog (106, spOf Qfx Qff Qbp) := Qa5 (C := (C_wide_product_0 Qeg)) (L := 64) (by kernel_rfl) (FnOK.bare rfl rfl rfl) sp_wide_product eqOk Qbj (by kernel_rfl) (by kernel_rfl)
def Qme : Sk := { tmps := [tf [ci]], boxes := [], rows := [] }
def Qkw : Sk := { tmps := [tf [CS.int .u64]], boxes := [], rows := [] }
def C_wide_size_0 : Cfg := { spec := Qbq [], eqOk := Qbu, ownOff := ownOff }
def mf_wide_size : Fn := Qau Try.prog C_wide_size_0 64 107 Qme Qkw
theorem mf_wide_size_eq (x0 : Int) : mf_wide_size [I x0] =
 bif decide (x0 < 0) then
 some [U (IntKind.u64.wrap (IntKind.u64.wrap (IntKind.i64.wrap (0 - IntKind.i64.wrap (x0 + 1))) + 1))]
 else
 some [U (IntKind.u64.wrap x0)] := by kernel_rfl
def Qeo := mf_wide_size 
theorem sp_wide_size : Qar Try.prog (C_wide_size_0 ) := Qae rfl trivial
theorem r_wide_size : Qbt Try.prog (107, spOf Qme Qkw Qeo) := Qa5 (C := C_wide_size_0) (L := 64) (by kernel_rfl) (FnOK.bare rfl rfl rfl) sp_wide_size eqOk Qbj (by kernel_rfl) (by kernel_rfl)
def Qkl : Sk := { tmps := [tf [ci]], boxes := [], rows := [] }
def Qi6 : Sk := { tmps := [tf [CS.bool]], boxes := [], rows := [] }
def C_wide_known_0 : Cfg := { spec := Qbq [], eqOk := Qbu, ownOff := ownOff }
def mf_wide_known : Fn := Qau Try.prog C_wide_known_0 64 143 Qkl Qi6
theorem mf_wide_known_eq (x0 : Int) : mf_wide_known [I x0] =
 bif x0 == 0 then
 some [B true]
 else
 bif x0 == 1 then
 some [B true]
 else
 some [B (x0 == 2)] := by kernel_rfl
def Qd0 := mf_wide_known 
theorem sp_wide_known : Qar Try.prog (C_wide_known_0 ) := Qae rfl trivial
theorem r_wide_known : Qbt Try.prog (143, spOf Qkl Qi6 Qd0) := Qa5 (C := C_wide_known_0) (L := 64) (by kernel_rfl) (FnOK.bare rfl rfl rfl) sp_wide_known eqOk Qbj (by kernel_rfl) (by kernel_rfl)
def Qgu : Sk := { tmps := [tf [ci], tf [ci], tf [ci], tf [ci]], boxes := [], rows := [] }
def Qft : Sk := { tmps := [TS.tup [(false, [ci]), (false, [CS.bool])]], boxes := [], rows := [] }
def C_wide_MulDiv_0 (Qaj Qa9 Qb0 Qdh Qan Qbg Qb3 : Fn) : Cfg := { spec := Qbq [(146, spOf Qjj Qht Qaj), (145, spOf sig_wide_grows Qmp Qa9), (104, spOf sig_wide_sign Qkv Qb0), (144, spOf sig_bits_Div64 Qmw Qdh), (106, spOf Qfx Qff Qan), (107, spOf Qme Qkw Qbg), (143, spOf Qkl Qi6 Qb3)], eqOk := Qbu, ownOff := ownOff }
def mf_wide_MulDiv (Qaj Qa9 Qb0 Qdh Qan Qbg Qb3 : Fn) : Fn := Qau Try.prog (C_wide_MulDiv_0 Qaj Qa9 Qb0 Qdh Qan Qbg Qb3) 64 98 Qgu Qft
abbrev Qm5 (Qa9 : Fn) (x3 : Int) (o31 : List AC) (Qaj : Fn) (h1_0 h1_1 : AC) : Option (List AC) :=
 (Qa9 [I x3, h1_0, B (decide (gA o31 1 > 0)), h1_1]).bind fun o34 =>
 bif bA o34 0 then
 bif IntKind.u64.wrap (gA o31 0 + 1) == 0 then
 some [I 0, B false]
 else
 (Qaj [U (IntKind.u64.wrap (gA o31 0 + 1)), h1_1]).bind fun o35 =>
 some [jA o35 0, B (bA o35 1)]
 else
 (Qaj [U (gA o31 0), h1_1]).bind fun o36 =>
 some [jA o36 0, B (bA o36 1)]
attribute [go_sem] Qm5
abbrev g_wide_MulDiv_2 (o31 o30 : List AC) (Qa9 : Fn) (x3 : Int) (Qaj : Fn) (h2_0 : AC) : Option (List AC) :=
 bif decide (gA o31 1 > IntKind.u64.wrap (gA o30 0 - gA o31 1)) then
 Qm5 Qa9 x3 o31 Qaj (I 1) h2_0
 else
 bif decide (gA o31 1 < IntKind.u64.wrap (gA o30 0 - gA o31 1)) then
 Qm5 Qa9 x3 o31 Qaj (I (-1)) h2_0
 else
 Qm5 Qa9 x3 o31 Qaj (I 0) h2_0
attribute [go_sem] g_wide_MulDiv_2
theorem mf_wide_MulDiv_eq (Qaj Qa9 Qb0 Qdh Qan Qbg Qb3 : Fn) (x0 x1 x2 x3 : Int) : mf_wide_MulDiv Qaj Qa9 Qb0 Qdh Qan Qbg Qb3 [I x0, I x1, I x2, I x3] =
 bif x2 == 0 then
 some [I 0, B false]
 else
 (Qb3 [I x3]).bind fun o26 =>
 bif !bA o26 0 then
 some [I 0, B false]
 else
 (Qbg [I x0]).bind fun o27 =>
 (Qbg [I x1]).bind fun o28 =>
 (Qan [U (gA o27 0), U (gA o28 0)]).bind fun o29 =>
 (Qbg [I x2]).bind fun o30 =>
 bif decide (gA o29 0 >= gA o30 0) then
 some [I 0, B false]
 else
 (Qdh [U (gA o29 0), U (gA o29 1), U (gA o30 0)]).bind fun o31 =>
 (Qb0 [I x0, I x1]).bind fun o32 =>
 bif !decide (gA o32 0 < 0) == decide (x2 < 0) then
 (Qb0 [I x0, I x1]).bind fun o33 =>
 g_wide_MulDiv_2 o31 o30 Qa9 x3 Qaj (B (gA o33 0 != 0))
 else
 g_wide_MulDiv_2 o31 o30 Qa9 x3 Qaj (B false) := by kernel_rfl
def Qbh := mf_wide_MulDiv Qcn Qe9 Qem Qef Qbp Qeo Qd0 
theorem sp_wide_MulDiv : Qar Try.prog (C_wide_MulDiv_0 Qcn Qe9 Qem Qef Qbp Qeo Qd0) := Qae rfl ⟨r_wide_signed, r_wide_grows, r_wide_sign, r_bits_Div64, r_wide_product, r_wide_size, r_wide_known, trivial⟩
theorem r_wide_MulDiv : Qbt Try.prog (98, spOf Qgu Qft Qbh) := Qa5 (C := (C_wide_MulDiv_0 Qcn Qe9 Qem Qef Qbp Qeo Qd0)) (L := 64) (by kernel_rfl) (FnOK.bare rfl rfl rfl) sp_wide_MulDiv eqOk Qbj (by kernel_rfl) (by kernel_rfl)
def sig_pitch_Correct : Sk := { tmps := [TS.v true [ci, ci, ci, ci, ci, ci, ci, ci, ci, CS.sl Qac], tf [ci]], boxes := [], rows := [] }
def Qno : Sk := { tmps := [tf [ci]], boxes := [], rows := [] }
def C_pitch_Correct_0 (Qak : Fn) : Cfg := { spec := Qbq [(98, spOf Qgu Qft Qak)], eqOk := Qbu, ownOff := ownOff }
def mf_pitch_Correct (Qak : Fn) : Fn := Qau Try.prog (C_pitch_Correct_0 Qak) 64 133 sig_pitch_Correct Qno
theorem mf_pitch_Correct_eq (Qak : Fn) (x0 x1 x2 x3 x4 x5 x6 x7 x8 : Int) (x9 : Rw) (x10 : Int) : mf_pitch_Correct Qak [I x0, I x1, I x2, I x3, I x4, I x5, I x6, I x7, I x8, .view Qac x9, I x10] =
 bif decide (IntKind.i64.wrap ((x9.length : Int) - 1) < 0) then
 some [I 0]
 else
 bif decide (IntKind.i64.wrap (x10 - x7) <= 0) then
 bif decide (0 <= 0) && decide (0 < (x9.length : Int)) then
 some [jA (nth [] x9 0) 0]
 else
 none
 else
 bif decide (x8 <= 0) then
 bif decide (0 <= 0) && decide (0 < (x9.length : Int)) then
 some [jA (nth [] x9 0) 0]
 else
 none
 else
 bif decide (x8 = 0) then
 none
 else
 bif decide (IntKind.i64.wrap ((IntKind.i64.wrap (x10 - x7)).tdiv x8) >= IntKind.i64.wrap ((x9.length : Int) - 1)) then
 bif decide (0 <= IntKind.i64.wrap ((x9.length : Int) - 1)) && decide (IntKind.i64.wrap ((x9.length : Int) - 1) < (x9.length : Int)) then
 some [jA (nth [] x9 (IntKind.i64.wrap ((x9.length : Int) - 1)).toNat) 0]
 else
 none
 else
 bif decide (0 <= IntKind.i64.wrap (IntKind.i64.wrap ((IntKind.i64.wrap (x10 - x7)).tdiv x8) + 1)) && decide (IntKind.i64.wrap (IntKind.i64.wrap ((IntKind.i64.wrap (x10 - x7)).tdiv x8) + 1) < (x9.length : Int)) then
 bif decide (0 <= IntKind.i64.wrap ((IntKind.i64.wrap (x10 - x7)).tdiv x8)) && decide (IntKind.i64.wrap ((IntKind.i64.wrap (x10 - x7)).tdiv x8) < (x9.length : Int)) then
 (Qak [I (IntKind.i64.wrap (Qaq (nth .dead (nth [] x9 (IntKind.i64.wrap (IntKind.i64.wrap ((IntKind.i64.wrap (x10 - x7)).tdiv x8) + 1)).toNat) 0) - Qaq (nth .dead (nth [] x9 (IntKind.i64.wrap ((IntKind.i64.wrap (x10 - x7)).tdiv x8)).toNat) 0))), I (IntKind.i64.wrap (IntKind.i64.wrap (x10 - x7) - IntKind.i64.wrap (IntKind.i64.wrap ((IntKind.i64.wrap (x10 - x7)).tdiv x8) * x8))), I x8, I 2]).bind fun o1 =>
 bif decide (0 <= IntKind.i64.wrap ((IntKind.i64.wrap (x10 - x7)).tdiv x8)) && decide (IntKind.i64.wrap ((IntKind.i64.wrap (x10 - x7)).tdiv x8) < (x9.length : Int)) then
 some [I (IntKind.i64.wrap (Qaq (nth .dead (nth [] x9 (IntKind.i64.wrap ((IntKind.i64.wrap (x10 - x7)).tdiv x8)).toNat) 0) + gA o1 0))]
 else
 none
 else
 none
 else
 none := by kernel_rfl
def Qer := mf_pitch_Correct Qbh 
theorem sp_pitch_Correct : Qar Try.prog (C_pitch_Correct_0 Qbh) := Qae rfl ⟨r_wide_MulDiv, trivial⟩
theorem r_pitch_Correct : Qbt Try.prog (133, spOf sig_pitch_Correct Qno Qer) := Qa5 (C := (C_pitch_Correct_0 Qbh)) (L := 64) (by kernel_rfl) (FnOK.bare rfl rfl rfl) sp_pitch_Correct eqOk Qbj (by kernel_rfl) (by kernel_rfl)
def sig_pitch_Motor : Sk := { tmps := [TS.v true [ci, ci, ci, ci, ci, ci, ci, ci, ci, CS.sl Qac], tf [ci]], boxes := [], rows := [] }
def osig_pitch_Motor : Sk := { tmps := [tf [ci]], boxes := [], rows := [] }
def C_pitch_Motor_0 (Ql6 Qgx : Fn) : Cfg := { spec := Qbq [(132, spOf sig_axis_Steps osig_axis_Steps Ql6), (133, spOf sig_pitch_Correct Qno Qgx)], eqOk := Qbu, ownOff := ownOff }
def mf_pitch_Motor (Ql6 Qgx : Fn) : Fn := Qau Try.prog (C_pitch_Motor_0 Ql6 Qgx) 64 89 sig_pitch_Motor osig_pitch_Motor
theorem mf_pitch_Motor_eq (Ql6 Qgx : Fn) (x0 x1 x2 x3 x4 x5 x6 x7 x8 : Int) (x9 : Rw) (x10 : Int) : mf_pitch_Motor Ql6 Qgx [I x0, I x1, I x2, I x3, I x4, I x5, I x6, I x7, I x8, .view Qac x9, I x10] =
 (Qgx [I x0, I x1, I x2, I x3, I x4, I x5, I x6, I x7, I x8, .view Qac x9, I x10]).bind fun o2 =>
 (Ql6 [I x0, I x1, I x2, I x3, I x4, I x5, I x6, I x7, I x8, .view Qac x9, I (IntKind.i64.wrap (x10 + gA o2 0))]).bind fun o3 =>
 some [jA o3 0] := by kernel_rfl
def Qjw := mf_pitch_Motor Qg9 Qer 
theorem sp_pitch_Motor : Qar Try.prog (C_pitch_Motor_0 Qg9 Qer) := Qae rfl ⟨r_axis_Steps, r_pitch_Correct, trivial⟩
theorem r_pitch_Motor : Qbt Try.prog (89, spOf sig_pitch_Motor osig_pitch_Motor Qjw) := Qa5 (C := (C_pitch_Motor_0 Qg9 Qer)) (L := 64) (by kernel_rfl) (FnOK.bare rfl rfl rfl) sp_pitch_Motor eqOk Qbj (by kernel_rfl) (by kernel_rfl)
def sig_track_find : Sk := { tmps := [TS.v true [CS.sl kPce, ci, ci, ci, ci, ci], tf [ci]], boxes := [], rows := [] }
def Qmj : Sk := { tmps := [tf [ci]], boxes := [], rows := [] }
def C_track_find_0 : Cfg := { spec := Qbq [], eqOk := Qbu, ownOff := ownOff }
def sk_track_find_2 : Sk := { tmps := [td, tf [ci], tf [CS.ptr 2 0], td, td, tf [ci], tf [ci]] ++ dd 29, boxes := [(2, 61, [CS.sl kPce, ci, ci, ci, ci, ci])], rows := [] }
def ex_track_find_2 : List (Ex × Sk) := [(Ex.exit 0, { tmps := [td, td, td, td, td, td, tf [ci]] ++ dd 29, boxes := [], rows := [] })]
def Qnz : Lp := stepL Try.prog C_track_find_0 64 2 (Qg8 Try.prog 88 2) sk_track_find_2 ex_track_find_2
def C_track_find_1 (N2 : Lp) : Cfg := C_track_find_0.loop 2 sk_track_find_2 ex_track_find_2 N2
def mf_track_find (N2 : Lp) : Fn := Qau Try.prog (C_track_find_1 N2) 64 88 sig_track_find Qmj
theorem Qnv (v0 v1 v2 : Int) (v3 : Rw) (v4 v5 v6 v7 v8 : Int) : Qnz [I v0, I v1, I v2, .view kPce v3, I v4, I v5, I v6, I v7, I v8] =
 bif decide (v1 < v2) then
 bif decide (0 <= IntKind.i64.wrap ((IntKind.i64.wrap (v1 + v2)).tdiv 2)) && decide (IntKind.i64.wrap ((IntKind.i64.wrap (v1 + v2)).tdiv 2) < (v3.length : Int)) then
 bif decide (v0 <= IntKind.i64.wrap (Qaq (nth .dead (nth [] v3 (IntKind.i64.wrap ((IntKind.i64.wrap (v1 + v2)).tdiv 2)).toNat) 0) + Qaq (nth .dead (nth [] v3 (IntKind.i64.wrap ((IntKind.i64.wrap (v1 + v2)).tdiv 2)).toNat) 1))) then
 some (0, [I v0, I v1, I (IntKind.i64.wrap ((IntKind.i64.wrap (v1 + v2)).tdiv 2)), .view kPce v3, I v4, I v5, I v6, I v7, I v8])
 else
 some (0, [I v0, I (IntKind.i64.wrap (IntKind.i64.wrap ((IntKind.i64.wrap (v1 + v2)).tdiv 2) + 1)), I v2, .view kPce v3, I v4, I v5, I v6, I v7, I v8])
 else
 none
 else
 some (1, [I v2]) := by kernel_rfl
theorem mf_track_find_eq (N2 : Lp) (x0 : Rw) (x1 x2 x3 x4 x5 x6 : Int) : mf_track_find N2 [.view kPce x0, I x1, I x2, I x3, I x4, I x5, I x6] =
 (N2 [I x6, I 0, I (IntKind.i64.wrap ((x0.length : Int) - 1)), .view kPce x0, I x1, I x2, I x3, I x4, I x5]).bind fun o1 =>
 bif o1.1.beq 1 then
 some [jA o1.2 0]
 else
 none := by kernel_rfl
def Qgh := Qby (Qnz )
def Qgb := mf_track_find Qgh
theorem sp_track_find : Qar Try.prog (C_track_find_0 ) := Qae rfl trivial
theorem r_track_find : Qbt Try.prog (88, spOf sig_track_find Qmj Qgb) := Qa5 (C := (C_track_find_1 Qgh)) (L := 64) (by kernel_rfl) ((FnOK.bare rfl rfl rfl).loop sp_track_find eqOk Qbj (by kernel_rfl) (by kernel_rfl)) sp_track_find eqOk Qbj (by kernel_rfl) (by kernel_rfl)
def sig_path_Find : Sk := { tmps := [TS.v true [ci, ci, ci, CS.sl kSgm, CS.sl kPt], tf [ci]], boxes := [], rows := [] }
def osig_path_Find : Sk := { tmps := [TS.tup [(false, [ci]), (false, [ci])]], boxes := [], rows := [] }
def C_path_Find_0 : Cfg := { spec := Qbq [], eqOk := Qbu, ownOff := ownOff }
def sk_path_Find_3 : Sk := { tmps := [td, tf [ci], tf [CS.ptr 2 0], td, td, td, td, td, td, td, td, tf [CS.sl kSgm], tf [ci], tf [ci]] ++ dd 24, boxes := [(2, 51, [ci, ci, ci, CS.sl kSgm, CS.sl kPt])], rows := [] }
def ex_path_Find_3 : List (Ex × Sk) := [(Ex.ret, { tmps := [td, td, td, td, tf [ci], tf [ci]] ++ dd 32, boxes := [], rows := [] }), (Ex.exit 0, { tmps := [td] ++ dd 37, boxes := [], rows := [] })]
def st_path_Find_3 : Lp := stepL Try.prog C_path_Find_0 64 3 (Qg8 Try.prog 97 3) sk_path_Find_3 ex_path_Find_3
def C_path_Find_1 (N3 : Lp) : Cfg := C_path_Find_0.loop 3 sk_path_Find_3 ex_path_Find_3 N3
def mf_path_Find (N3 : Lp) : Fn := Qau Try.prog (C_path_Find_1 N3) 64 97 sig_path_Find osig_path_Find
theorem st_path_Find_3_eq (v0 : Int) (v1 : Rw) (v2 v3 v4 v5 v6 : Int) (v7 v8 : Rw) : st_path_Find_3 [I v0, .view kSgm v1, I v2, I v3, I v4, I v5, I v6, .view kSgm v7, .view kPt v8] =
 bif decide (v3 < v2) then
 bif decide (0 <= v3) && decide (v3 < (v1.length : Int)) then
 bif decide (v0 < gA (nth [] v1 v3.toNat) 3) then
 some (1, [I v3, I v0])
 else
 bif v3 == IntKind.i64.wrap ((v7.length : Int) - 1) then
 some (1, [I v3, jA (nth [] v1 v3.toNat) 3])
 else
 some (0, [I (IntKind.i64.wrap (v0 - gA (nth [] v1 v3.toNat) 3)), .view kSgm v1, I v2, I (IntKind.i64.wrap (v3 + 1)), I v4, I v5, I v6, .view kSgm v7, .view kPt v8])
 else
 none
 else
 some (2, []) := by kernel_rfl
theorem mf_path_Find_eq (N3 : Lp) (x0 x1 x2 : Int) (x3 x4 : Rw) (x5 : Int) : mf_path_Find N3 [I x0, I x1, I x2, .view kSgm x3, .view kPt x4, I x5] =
 (N3 [I (mx x5 0), .view kSgm x3, I (x3.length : Int), I 0, I x0, I x1, I x2, .view kSgm x3, .view kPt x4]).bind fun o1 =>
 bif o1.1.beq 1 then
 some [jA o1.2 0, jA o1.2 1]
 else
 bif o1.1.beq 2 then
 some [I (-1), I 0]
 else
 none := by kernel_rfl
def Qj5 := Qby (st_path_Find_3 )
def Qly := mf_path_Find Qj5
theorem sp_path_Find : Qar Try.prog (C_path_Find_0 ) := Qae rfl trivial
theorem r_path_Find : Qbt Try.prog (97, spOf sig_path_Find osig_path_Find Qly) := Qa5 (C := (C_path_Find_1 Qj5)) (L := 64) (by kernel_rfl) ((FnOK.bare rfl rfl rfl).loop sp_path_Find eqOk Qbj (by kernel_rfl) (by kernel_rfl)) sp_path_Find eqOk Qbj (by kernel_rfl) (by kernel_rfl)
def sig_path_At : Sk := { tmps := [TS.v true [ci, ci, ci, CS.sl kSgm, CS.sl kPt], tf [ci]], boxes := [], rows := [] }
def osig_path_At : Sk := { tmps := [TS.v true [ci, ci, ci]], boxes := [], rows := [] }
def C_path_At_0 (Qak Ql1 : Fn) : Cfg := { spec := Qbq [(98, spOf Qgu Qft Qak), (97, spOf sig_path_Find osig_path_Find Ql1)], eqOk := Qbu, ownOff := ownOff, unroll := [9] }
def mf_path_At (Qak Ql1 : Fn) : Fn := Qau Try.prog (C_path_At_0 Qak Ql1) 64 45 sig_path_At osig_path_At
theorem mf_path_At_eq (Qak Ql1 : Fn) (x0 x1 x2 : Int) (x3 x4 : Rw) (x5 : Int) : mf_path_At Qak Ql1 [I x0, I x1, I x2, .view kSgm x3, .view kPt x4, I x5] =
 (Ql1 [I x0, I x1, I x2, .view kSgm x3, .view kPt x4, I x5]).bind fun o7 =>
 bif decide (gA o7 0 < 0) then
 some [I x0, I x1, I x2]
 else
 bif decide (gA o7 0 > 0) then
 bif decide (0 <= IntKind.i64.wrap (gA o7 0 - 1)) && decide (IntKind.i64.wrap (gA o7 0 - 1) < (x3.length : Int)) then
 bif decide (0 <= gA o7 0) && decide (gA o7 0 < (x3.length : Int)) then
 (Qak [I (IntKind.i64.wrap (gA (nth [] x3 (gA o7 0).toNat) 0 - gA (nth [] x3 (IntKind.i64.wrap (gA o7 0 - 1)).toNat) 0)), jA o7 1, jA (nth [] x3 (gA o7 0).toNat) 3, I 2]).bind fun o8 =>
 (Qak [I (IntKind.i64.wrap (gA (nth [] x3 (gA o7 0).toNat) 1 - gA (nth [] x3 (IntKind.i64.wrap (gA o7 0 - 1)).toNat) 1)), jA o7 1, jA (nth [] x3 (gA o7 0).toNat) 3, I 2]).bind fun o9 =>
 (Qak [I (IntKind.i64.wrap (gA (nth [] x3 (gA o7 0).toNat) 2 - gA (nth [] x3 (IntKind.i64.wrap (gA o7 0 - 1)).toNat) 2)), jA o7 1, jA (nth [] x3 (gA o7 0).toNat) 3, I 2]).bind fun o10 =>
 some [I (IntKind.i64.wrap (gA (nth [] x3 (IntKind.i64.wrap (gA o7 0 - 1)).toNat) 0 + gA o8 0)), I (IntKind.i64.wrap (gA (nth [] x3 (IntKind.i64.wrap (gA o7 0 - 1)).toNat) 1 + gA o9 0)), I (IntKind.i64.wrap (gA (nth [] x3 (IntKind.i64.wrap (gA o7 0 - 1)).toNat) 2 + gA o10 0))]
 else
 none
 else
 none
 else
 bif decide (0 <= gA o7 0) && decide (gA o7 0 < (x3.length : Int)) then
 (Qak [I (IntKind.i64.wrap (gA (nth [] x3 (gA o7 0).toNat) 0 - x0)), jA o7 1, jA (nth [] x3 (gA o7 0).toNat) 3, I 2]).bind fun o11 =>
 (Qak [I (IntKind.i64.wrap (gA (nth [] x3 (gA o7 0).toNat) 1 - x1)), jA o7 1, jA (nth [] x3 (gA o7 0).toNat) 3, I 2]).bind fun o12 =>
 (Qak [I (IntKind.i64.wrap (gA (nth [] x3 (gA o7 0).toNat) 2 - x2)), jA o7 1, jA (nth [] x3 (gA o7 0).toNat) 3, I 2]).bind fun o13 =>
 some [I (IntKind.i64.wrap (x0 + gA o11 0)), I (IntKind.i64.wrap (x1 + gA o12 0)), I (IntKind.i64.wrap (x2 + gA o13 0))]
 else
 none := by kernel_rfl
def m_path_At := mf_path_At Qbh Qly 
theorem sp_path_At : Qar Try.prog (C_path_At_0 Qbh Qly) := Qae rfl ⟨r_wide_MulDiv, r_path_Find, trivial⟩
theorem r_path_At : Qbt Try.prog (45, spOf sig_path_At osig_path_At m_path_At) := Qa5 (C := (C_path_At_0 Qbh Qly)) (L := 64) (by kernel_rfl) (FnOK.bare rfl rfl rfl) sp_path_At eqOk Qbj (by kernel_rfl) (by kernel_rfl)
def Qjb : Sk := { tmps := [tf [ci], tf [ci]], boxes := [], rows := [] }
def Qhv : Sk := { tmps := [tf [ci]], boxes := [], rows := [] }
def C_track_clamp_0 : Cfg := { spec := Qbq [], eqOk := Qbu, ownOff := ownOff }
def mf_track_clamp : Fn := Qau Try.prog C_track_clamp_0 64 82 Qjb Qhv
theorem mf_track_clamp_eq (x0 x1 : Int) : mf_track_clamp [I x0, I x1] =
 some [I (mx 0 (mn x0 x1))] := by kernel_rfl
def Qdr := mf_track_clamp 
theorem sp_track_clamp : Qar Try.prog (C_track_clamp_0 ) := Qae rfl trivial
theorem r_track_clamp : Qbt Try.prog (82, spOf Qjb Qhv Qdr) := Qa5 (C := C_track_clamp_0) (L := 64) (by kernel_rfl) (FnOK.bare rfl rfl rfl) sp_track_clamp eqOk Qbj (by kernel_rfl) (by kernel_rfl)
def Qnm : Sk := { tmps := [TS.v true [CS.sl kPce, ci, ci, ci, ci, ci], tf [ci]], boxes := [], rows := [] }
def Qk9 : Sk := { tmps := [tf [ci]], boxes := [], rows := [] }
def C_track_Place_0 (Qdx Qbm : Fn) : Cfg := { spec := Qbq [(88, spOf sig_track_find Qmj Qdx), (82, spOf Qjb Qhv Qbm)], eqOk := Qbu, ownOff := ownOff }
def mf_track_Place (Qdx Qbm : Fn) : Fn := Qau Try.prog (C_track_Place_0 Qdx Qbm) 64 37 Qnm Qk9
theorem mf_track_Place_eq (Qdx Qbm : Fn) (x0 : Rw) (x1 x2 x3 x4 x5 x6 : Int) : mf_track_Place Qdx Qbm [.view kPce x0, I x1, I x2, I x3, I x4, I x5, I x6] =
 (Qbm [I x6, I x1]).bind fun o2 =>
 (Qdx [.view kPce x0, I x1, I x2, I x3, I x4, I x5, jA o2 0]).bind fun o3 =>
 bif decide (gA o3 0 < 0) then
 some [I x2]
 else
 bif decide (0 <= gA o3 0) && decide (gA o3 0 < (x0.length : Int)) then
 bif decide (0 <= gA o3 0) && decide (gA o3 0 < (x0.length : Int)) then
 bif decide (0 <= gA o3 0) && decide (gA o3 0 < (x0.length : Int)) then
 some [I (IntKind.i64.wrap (gA (nth [] x0 (gA o3 0).toNat) 2 + IntKind.i64.wrap (gA (nth [] x0 (gA o3 0).toNat) 3 * IntKind.i64.wrap (gA o2 0 - gA (nth [] x0 (gA o3 0).toNat) 0))))]
 else
 none
 else
 none
 else
 none := by kernel_rfl
def Qf6 := mf_track_Place Qgb Qdr 
theorem sp_track_Place : Qar Try.prog (C_track_Place_0 Qgb Qdr) := Qae rfl ⟨r_track_find, r_track_clamp, trivial⟩
theorem r_track_Place : Qbt Try.prog (37, spOf Qnm Qk9 Qf6) := Qa5 (C := (C_track_Place_0 Qgb Qdr)) (L := 64) (by kernel_rfl) (FnOK.bare rfl rfl rfl) sp_track_Place eqOk Qbj (by kernel_rfl) (by kernel_rfl)
def sig_track_Motors : Sk := { tmps := [TS.v true [ci, ci, ci, CS.sl kSgm, CS.sl kPt], TS.v true [ci, ci, ci, ci, ci, ci, ci, ci, ci, CS.sl Qac, ci, ci, ci, ci, ci, ci, ci, ci, ci, CS.sl Qac, ci, ci, ci, ci, ci, ci, ci, ci, ci, CS.sl Qac], TS.v true [CS.sl kPce, ci, ci, ci, ci, ci], tf [ci]], boxes := [], rows := [] }
def osig_track_Motors : Sk := { tmps := [TS.v true [ci, ci, ci]], boxes := [], rows := [] }
def C_track_Motors_0 (Qc5 Qah Qc4 Qdx Qes Qb9 Qbm : Fn) : Cfg := { spec := Qbq [(91, spOf sig_track_shift osig_track_shift Qc5), (90, spOf Qir Qhh Qah), (89, spOf sig_pitch_Motor osig_pitch_Motor Qc4), (88, spOf sig_track_find Qmj Qdx), (45, spOf sig_path_At osig_path_At Qes), (37, spOf Qnm Qk9 Qb9), (82, spOf Qjb Qhv Qbm)], eqOk := Qbu, ownOff := ownOff, unroll := [6] }
def mf_track_Motors (Qc5 Qah Qc4 Qdx Qes Qb9 Qbm : Fn) : Fn := Qau Try.prog (C_track_Motors_0 Qc5 Qah Qc4 Qdx Qes Qb9 Qbm) 64 38 sig_track_Motors osig_track_Motors
abbrev g_track_Motors_2 (Qc4 : Fn) (x25 x26 x27 x28 x29 x30 x31 x32 x33 : Int) (x34 : Rw) (o27 o28 : List AC) (Qah : Fn) (x40 : Int) (h1_0 : AC) (x35 : Rw) (Qc5 : Fn) (o25 : List AC) (h2_0 : AC) : Option (List AC) :=
 (Qc4 [I x25, I x26, I x27, I x28, I x29, I x30, I x31, I x32, I x33, .view Qac x34, jA o27 2]).bind fun o33 =>
 bif decide (gA o28 0 < 0) then
 (Qah [I x25, I x26, I x27, I x28, I x29, I x30, I x31, I x32, I x33, .view Qac x34, I x40]).bind fun o34 =>
 some [h1_0, h2_0, I (IntKind.i64.wrap (gA o33 0 + gA o34 0))]
 else
 bif decide (0 <= gA o28 0) && decide (gA o28 0 < (x35.length : Int)) then
 (Qc5 [I x25, I x26, I x27, I x28, I x29, I x30, I x31, I x32, I x33, .view Qac x34, jA (nth [] x35 (gA o28 0).toNat) 0, jA (nth [] x35 (gA o28 0).toNat) 1, jA (nth [] x35 (gA o28 0).toNat) 2, jA (nth [] x35 (gA o28 0).toNat) 3, jA (nth [] x35 (gA o28 0).toNat) 4, jA (nth [] x35 (gA o28 0).toNat) 5, jA (nth [] x35 (gA o28 0).toNat) 6, jA (nth [] x35 (gA o28 0).toNat) 7, jA (nth [] x35 (gA o28 0).toNat) 8, jA (nth [] x35 (gA o28 0).toNat) 9, I (IntKind.i64.wrap (IntKind.i64.wrap (0 + 1) + 1)), jA o25 0]).bind fun o35 =>
 some [h1_0, h2_0, I (IntKind.i64.wrap (gA o33 0 + gA o35 0))]
 else
 none
attribute [go_sem] g_track_Motors_2
abbrev g_track_Motors_1 (Qc4 : Fn) (x15 x16 x17 x18 x19 x20 x21 x22 x23 : Int) (x24 : Rw) (o27 o28 : List AC) (Qah : Fn) (x39 x25 x26 x27 x28 x29 x30 x31 x32 x33 : Int) (x34 : Rw) (x40 : Int) (x35 : Rw) (Qc5 : Fn) (o25 : List AC) (h1_0 : AC) : Option (List AC) :=
 (Qc4 [I x15, I x16, I x17, I x18, I x19, I x20, I x21, I x22, I x23, .view Qac x24, jA o27 1]).bind fun o31 =>
 bif decide (gA o28 0 < 0) then
 (Qah [I x15, I x16, I x17, I x18, I x19, I x20, I x21, I x22, I x23, .view Qac x24, I x39]).bind fun o32 =>
 g_track_Motors_2 Qc4 x25 x26 x27 x28 x29 x30 x31 x32 x33 x34 o27 o28 Qah x40 h1_0 x35 Qc5 o25 (I (IntKind.i64.wrap (gA o31 0 + gA o32 0)))
 else
 bif decide (0 <= gA o28 0) && decide (gA o28 0 < (x35.length : Int)) then
 (Qc5 [I x15, I x16, I x17, I x18, I x19, I x20, I x21, I x22, I x23, .view Qac x24, jA (nth [] x35 (gA o28 0).toNat) 0, jA (nth [] x35 (gA o28 0).toNat) 1, jA (nth [] x35 (gA o28 0).toNat) 2, jA (nth [] x35 (gA o28 0).toNat) 3, jA (nth [] x35 (gA o28 0).toNat) 4, jA (nth [] x35 (gA o28 0).toNat) 5, jA (nth [] x35 (gA o28 0).toNat) 6, jA (nth [] x35 (gA o28 0).toNat) 7, jA (nth [] x35 (gA o28 0).toNat) 8, jA (nth [] x35 (gA o28 0).toNat) 9, I (IntKind.i64.wrap (0 + 1)), jA o25 0]).bind fun o36 =>
 g_track_Motors_2 Qc4 x25 x26 x27 x28 x29 x30 x31 x32 x33 x34 o27 o28 Qah x40 h1_0 x35 Qc5 o25 (I (IntKind.i64.wrap (gA o31 0 + gA o36 0)))
 else
 none
attribute [go_sem] g_track_Motors_1
theorem mf_track_Motors_eq (Qc5 Qah Qc4 Qdx Qes Qb9 Qbm : Fn) (x0 x1 x2 : Int) (x3 x4 : Rw) (x5 x6 x7 x8 x9 x10 x11 x12 x13 : Int) (x14 : Rw) (x15 x16 x17 x18 x19 x20 x21 x22 x23 : Int) (x24 : Rw) (x25 x26 x27 x28 x29 x30 x31 x32 x33 : Int) (x34 x35 : Rw) (x36 x37 x38 x39 x40 x41 : Int) : mf_track_Motors Qc5 Qah Qc4 Qdx Qes Qb9 Qbm [I x0, I x1, I x2, .view kSgm x3, .view kPt x4, I x5, I x6, I x7, I x8, I x9, I x10, I x11, I x12, I x13, .view Qac x14, I x15, I x16, I x17, I x18, I x19, I x20, I x21, I x22, I x23, .view Qac x24, I x25, I x26, I x27, I x28, I x29, I x30, I x31, I x32, I x33, .view Qac x34, .view kPce x35, I x36, I x37, I x38, I x39, I x40, I x41] =
 (Qbm [I x41, I x36]).bind fun o25 =>
 (Qb9 [.view kPce x35, I x36, I x37, I x38, I x39, I x40, jA o25 0]).bind fun o26 =>
 (Qes [I x0, I x1, I x2, .view kSgm x3, .view kPt x4, jA o26 0]).bind fun o27 =>
 (Qdx [.view kPce x35, I x36, I x37, I x38, I x39, I x40, jA o25 0]).bind fun o28 =>
 (Qc4 [I x5, I x6, I x7, I x8, I x9, I x10, I x11, I x12, I x13, .view Qac x14, jA o27 0]).bind fun o29 =>
 bif decide (gA o28 0 < 0) then
 (Qah [I x5, I x6, I x7, I x8, I x9, I x10, I x11, I x12, I x13, .view Qac x14, I x38]).bind fun o30 =>
 g_track_Motors_1 Qc4 x15 x16 x17 x18 x19 x20 x21 x22 x23 x24 o27 o28 Qah x39 x25 x26 x27 x28 x29 x30 x31 x32 x33 x34 x40 x35 Qc5 o25 (I (IntKind.i64.wrap (gA o29 0 + gA o30 0)))
 else
 bif decide (0 <= gA o28 0) && decide (gA o28 0 < (x35.length : Int)) then
 (Qc5 [I x5, I x6, I x7, I x8, I x9, I x10, I x11, I x12, I x13, .view Qac x14, jA (nth [] x35 (gA o28 0).toNat) 0, jA (nth [] x35 (gA o28 0).toNat) 1, jA (nth [] x35 (gA o28 0).toNat) 2, jA (nth [] x35 (gA o28 0).toNat) 3, jA (nth [] x35 (gA o28 0).toNat) 4, jA (nth [] x35 (gA o28 0).toNat) 5, jA (nth [] x35 (gA o28 0).toNat) 6, jA (nth [] x35 (gA o28 0).toNat) 7, jA (nth [] x35 (gA o28 0).toNat) 8, jA (nth [] x35 (gA o28 0).toNat) 9, I 0, jA o25 0]).bind fun o40 =>
 g_track_Motors_1 Qc4 x15 x16 x17 x18 x19 x20 x21 x22 x23 x24 o27 o28 Qah x39 x25 x26 x27 x28 x29 x30 x31 x32 x33 x34 x40 x35 Qc5 o25 (I (IntKind.i64.wrap (gA o29 0 + gA o40 0)))
 else
 none := by kernel_rfl
def Qkm := mf_track_Motors m_track_shift Qdu Qjw Qgb m_path_At Qf6 Qdr 
theorem sp_track_Motors : Qar Try.prog (C_track_Motors_0 m_track_shift Qdu Qjw Qgb m_path_At Qf6 Qdr) := Qae rfl ⟨r_track_shift, r_backlash_Shift, r_pitch_Motor, r_track_find, r_path_At, r_track_Place, r_track_clamp, trivial⟩
theorem r_track_Motors : Qbt Try.prog (38, spOf sig_track_Motors osig_track_Motors Qkm) := Qa5 (C := (C_track_Motors_0 m_track_shift Qdu Qjw Qgb m_path_At Qf6 Qdr)) (L := 64) (by kernel_rfl) (FnOK.bare rfl rfl rfl) sp_track_Motors eqOk Qbj (by kernel_rfl) (by kernel_rfl)
def sig_track_takeUp : Sk := { tmps := [TS.v true [ci, ci, ci, ci, ci, ci, ci, ci, ci, CS.sl Qac, ci, ci, ci, ci, ci, ci, ci, ci, ci, CS.sl Qac, ci, ci, ci, ci, ci, ci, ci, ci, ci, CS.sl Qac], TS.v true [ci, ci, ci], TS.v true [ci, ci, ci]], boxes := [], rows := [] }
def osig_track_takeUp : Sk := { tmps := [tf [ci]], boxes := [], rows := [] }
def C_track_takeUp_0 : Cfg := { spec := Qbq [], eqOk := Qbu, ownOff := ownOff, unroll := [3] }
def mf_track_takeUp : Fn := Qau Try.prog C_track_takeUp_0 64 86 sig_track_takeUp osig_track_takeUp
theorem mf_track_takeUp_eq (x0 x1 x2 x3 x4 x5 x6 x7 x8 : Int) (x9 : Rw) (x10 x11 x12 x13 x14 x15 x16 x17 x18 : Int) (x19 : Rw) (x20 x21 x22 x23 x24 x25 x26 x27 x28 : Int) (x29 : Rw) (x30 x31 x32 x33 x34 x35 : Int) : mf_track_takeUp [I x0, I x1, I x2, I x3, I x4, I x5, I x6, I x7, I x8, .view Qac x9, I x10, I x11, I x12, I x13, I x14, I x15, I x16, I x17, I x18, .view Qac x19, I x20, I x21, I x22, I x23, I x24, I x25, I x26, I x27, I x28, .view Qac x29, I x30, I x31, I x32, I x33, I x34, I x35] =
 bif x30 != x33 then
 bif x31 != x34 then
 bif x32 != x35 then
 some [I (mx (mx (mx 0 x6) x16) x26)]
 else
 some [I (mx (mx 0 x6) x16)]
 else
 bif x32 != x35 then
 some [I (mx (mx 0 x6) x26)]
 else
 some [I (mx 0 x6)]
 else
 bif x31 != x34 then
 bif x32 != x35 then
 some [I (mx (mx 0 x16) x26)]
 else
 some [I (mx 0 x16)]
 else
 bif x32 != x35 then
 some [I (mx 0 x26)]
 else
 some [I 0] := by kernel_rfl
def Qh9 := mf_track_takeUp 
theorem sp_track_takeUp : Qar Try.prog (C_track_takeUp_0 ) := Qae rfl trivial
theorem r_track_takeUp : Qbt Try.prog (86, spOf sig_track_takeUp osig_track_takeUp Qh9) := Qa5 (C := C_track_takeUp_0) (L := 64) (by kernel_rfl) (FnOK.bare rfl rfl rfl) sp_track_takeUp eqOk Qbj (by kernel_rfl) (by kernel_rfl)
def sig_track_turned : Sk := { tmps := [TS.v true [ci, ci, ci], TS.v true [ci, ci, ci], TS.v true [ci, ci, ci], tf [ci]], boxes := [], rows := [] }
def osig_track_turned : Sk := { tmps := [TS.v true [ci, ci, ci]], boxes := [], rows := [] }
def C_track_turned_0 : Cfg := { spec := Qbq [], eqOk := Qbu, ownOff := ownOff, unroll := [2] }
def mf_track_turned : Fn := Qau Try.prog C_track_turned_0 64 85 sig_track_turned osig_track_turned
abbrev Qk8 (x8 x5 : Int) (h1_0 : AC) (x9 x2 : Int) (h2_0 : AC) : Option (List AC) :=
 bif decide (x8 > x5) then
 some [h1_0, h2_0, I x9]
 else
 bif decide (x8 < x5) then
 some [h1_0, h2_0, I (IntKind.i64.wrap (0 - x9))]
 else
 some [h1_0, h2_0, I x2]
attribute [go_sem] Qk8
abbrev Qlh (x7 x4 x8 x5 x9 x2 x1 : Int) (h1_0 : AC) : Option (List AC) :=
 bif decide (x7 > x4) then
 Qk8 x8 x5 h1_0 x9 x2 (I x9)
 else
 bif decide (x7 < x4) then
 Qk8 x8 x5 h1_0 x9 x2 (I (IntKind.i64.wrap (0 - x9)))
 else
 Qk8 x8 x5 h1_0 x9 x2 (I x1)
attribute [go_sem] Qlh
theorem mf_track_turned_eq (x0 x1 x2 x3 x4 x5 x6 x7 x8 x9 : Int) : mf_track_turned [I x0, I x1, I x2, I x3, I x4, I x5, I x6, I x7, I x8, I x9] =
 bif decide (x6 > x3) then
 Qlh x7 x4 x8 x5 x9 x2 x1 (I x9)
 else
 bif decide (x6 < x3) then
 Qlh x7 x4 x8 x5 x9 x2 x1 (I (IntKind.i64.wrap (0 - x9)))
 else
 Qlh x7 x4 x8 x5 x9 x2 x1 (I x0) := by kernel_rfl
def Qh5 := mf_track_turned 
theorem sp_track_turned : Qar Try.prog (C_track_turned_0 ) := Qae rfl trivial
theorem r_track_turned : Qbt Try.prog (85, spOf sig_track_turned osig_track_turned Qh5) := Qa5 (C := C_track_turned_0) (L := 64) (by kernel_rfl) (FnOK.bare rfl rfl rfl) sp_track_turned eqOk Qbj (by kernel_rfl) (by kernel_rfl)
def Qmu : Sk := { tmps := [TS.v true [ci, ci, ci, ci, ci, ci, ci, ci, ci, ci], tf [CS.ptr 20000 0]], boxes := [(20000, 61, [CS.own 20000 10, ci, ci, ci, ci, ci])], rows := [(20000, 114, kPce)] }
def Qlf : Sk := { tmps := [TS.tup []], boxes := [(20000, 61, [CS.own 20000 10, ci, ci, ci, ci, ci])], rows := [(20000, 114, kPce)] }
def C_track_Leg_1_0 : Cfg := { spec := Qbq [], eqOk := Qbu, ownOff := ownOff }
def mf_track_Leg_1 : Fn := Qau Try.prog C_track_Leg_1_0 64 83 Qmu Qlf
theorem mf_track_Leg_1_eq (x0 : Rw) (x1 x2 x3 x4 x5 x6 x7 x8 x9 x10 x11 x12 x13 x14 x15 : Int) : mf_track_Leg_1 [.view kPce x0, I x1, I x2, I x3, I x4, I x5, I x6, I x7, I x8, I x9, I x10, I x11, I x12, I x13, I x14, I x15] =
 bif decide ((x0.length : Int) > 0) then
 bif x4 != 0 then
 bif decide (0 <= IntKind.i64.wrap ((x0.length : Int) - 1)) && decide (IntKind.i64.wrap ((x0.length : Int) - 1) < (x0.length : Int)) then
 bif gA (nth [] x0 (IntKind.i64.wrap ((x0.length : Int) - 1)).toNat) 3 == x4 then
 bif decide (0 <= IntKind.i64.wrap ((x0.length : Int) - 1)) && decide (IntKind.i64.wrap ((x0.length : Int) - 1) < (x0.length : Int)) then
 bif gA (nth [] x0 (IntKind.i64.wrap ((x0.length : Int) - 1)).toNat) 7 == x8 && (gA (nth [] x0 (IntKind.i64.wrap ((x0.length : Int) - 1)).toNat) 8 == x9 && (gA (nth [] x0 (IntKind.i64.wrap ((x0.length : Int) - 1)).toNat) 9 == x10 && true)) then
 bif decide (0 <= IntKind.i64.wrap ((x0.length : Int) - 1)) && decide (IntKind.i64.wrap ((x0.length : Int) - 1) < (x0.length : Int)) then
 bif decide (0 <= IntKind.i64.wrap ((x0.length : Int) - 1)) && decide (IntKind.i64.wrap ((x0.length : Int) - 1) < (x0.length : Int)) then
 some [.view kPce (x0.set (IntKind.i64.wrap ((x0.length : Int) - 1)).toNat [jA (nth [] x0 (IntKind.i64.wrap ((x0.length : Int) - 1)).toNat) 0, I (IntKind.i64.wrap (gA (nth [] x0 (IntKind.i64.wrap ((x0.length : Int) - 1)).toNat) 1 + x2)), jA (nth [] x0 (IntKind.i64.wrap ((x0.length : Int) - 1)).toNat) 2, jA (nth [] x0 (IntKind.i64.wrap ((x0.length : Int) - 1)).toNat) 3, jA (nth [] x0 (IntKind.i64.wrap ((x0.length : Int) - 1)).toNat) 4, jA (nth [] x0 (IntKind.i64.wrap ((x0.length : Int) - 1)).toNat) 5, jA (nth [] x0 (IntKind.i64.wrap ((x0.length : Int) - 1)).toNat) 6, jA (nth [] x0 (IntKind.i64.wrap ((x0.length : Int) - 1)).toNat) 7, jA (nth [] x0 (IntKind.i64.wrap ((x0.length : Int) - 1)).toNat) 8, jA (nth [] x0 (IntKind.i64.wrap ((x0.length : Int) - 1)).toNat) 9]), I (IntKind.i64.wrap (x11 + x2)), I x12, I x13, I x14, I x15]
 else
 none
 else
 none
 else
 bif ((x0 ++ [[I x11, I x2, I x3, I x4, I x5, I x6, I x7, I x8, I x9, I x10]]).length * 80).ble 140737488355328 then
 some [.view kPce (x0 ++ [[I x11, I x2, I x3, I x4, I x5, I x6, I x7, I x8, I x9, I x10]]), I (IntKind.i64.wrap (x11 + x2)), I x12, I x13, I x14, I x15]
 else
 none
 else
 none
 else
 bif ((x0 ++ [[I x11, I x2, I x3, I x4, I x5, I x6, I x7, I x8, I x9, I x10]]).length * 80).ble 140737488355328 then
 some [.view kPce (x0 ++ [[I x11, I x2, I x3, I x4, I x5, I x6, I x7, I x8, I x9, I x10]]), I (IntKind.i64.wrap (x11 + x2)), I x12, I x13, I x14, I x15]
 else
 none
 else
 none
 else
 bif ((x0 ++ [[I x11, I x2, I x3, I x4, I x5, I x6, I x7, I x8, I x9, I x10]]).length * 80).ble 140737488355328 then
 some [.view kPce (x0 ++ [[I x11, I x2, I x3, I x4, I x5, I x6, I x7, I x8, I x9, I x10]]), I (IntKind.i64.wrap (x11 + x2)), I x12, I x13, I x14, I x15]
 else
 none
 else
 bif ((x0 ++ [[I x11, I x2, I x3, I x4, I x5, I x6, I x7, I x8, I x9, I x10]]).length * 80).ble 140737488355328 then
 some [.view kPce (x0 ++ [[I x11, I x2, I x3, I x4, I x5, I x6, I x7, I x8, I x9, I x10]]), I (IntKind.i64.wrap (x11 + x2)), I x12, I x13, I x14, I x15]
 else
 none := by kernel_rfl
def Qhl := mf_track_Leg_1 
theorem sp_track_Leg_1 : Qar Try.prog (C_track_Leg_1_0 ) := Qae rfl trivial
theorem r_track_Leg_1 : Qbt Try.prog (83, spOf Qmu Qlf Qhl) := Qa5 (C := C_track_Leg_1_0) (L := 64) (by kernel_rfl) (FnOK.bare rfl rfl rfl) sp_track_Leg_1 eqOk Qbj (by kernel_rfl) (by kernel_rfl)
def sig_track_Leg_2 : Sk := { tmps := [TS.v true [ci, ci, ci], TS.v true [ci, ci, ci], tf [ci], tf [ci], tf [CS.ptr 20000 0], tf [CS.ptr 20001 0], tf [CS.ptr 20002 0], tf [CS.ptr 20003 0]], boxes := [(20000, 22, [ci, ci, ci]), (20001, 3, [ci]), (20002, 55, [ci, ci, ci, ci, ci, ci, ci, ci, ci, CS.sl Qac, ci, ci, ci, ci, ci, ci, ci, ci, ci, CS.sl Qac, ci, ci, ci, ci, ci, ci, ci, ci, ci, CS.sl Qac]), (20003, 115, [CS.clo 83 [] [(20004, 0)]]), (20004, 61, [CS.own 20000 10, ci, ci, ci, ci, ci])], rows := [(20000, 114, kPce)] }
def Qlc : Sk := { tmps := [TS.tup []], boxes := [(20000, 22, [ci, ci, ci]), (20001, 3, [ci]), (20002, 55, [ci, ci, ci, ci, ci, ci, ci, ci, ci, CS.sl Qac, ci, ci, ci, ci, ci, ci, ci, ci, ci, CS.sl Qac, ci, ci, ci, ci, ci, ci, ci, ci, ci, CS.sl Qac]), (20003, 115, [CS.clo 83 [] [(20004, 0)]]), (20004, 61, [CS.own 20000 10, ci, ci, ci, ci, ci])], rows := [(20000, 114, kPce)] }
def C_track_Leg_2_0 (Qh6 Qh7 Qc2 : Fn) : Cfg := { spec := Qbq [(86, spOf sig_track_takeUp osig_track_takeUp Qh6), (85, spOf sig_track_turned osig_track_turned Qh7), (83, spOf Qmu Qlf Qc2)], eqOk := Qbu, pure := fun f => !(Qd3 [83] f), ownOff := ownOff }
def mf_track_Leg_2 (Qh6 Qh7 Qc2 : Fn) : Fn := Qau Try.prog (C_track_Leg_2_0 Qh6 Qh7 Qc2) 64 84 sig_track_Leg_2 Qlc
theorem mf_track_Leg_2_eq (Qh6 Qh7 Qc2 : Fn) (x0 : Rw) (x1 x2 x3 x4 x5 x6 x7 x8 x9 x10 x11 x12 x13 x14 x15 x16 x17 x18 x19 x20 x21 : Int) (x22 : Rw) (x23 x24 x25 x26 x27 x28 x29 x30 x31 : Int) (x32 : Rw) (x33 x34 x35 x36 x37 x38 x39 x40 x41 : Int) (x42 : Rw) (x43 x44 x45 x46 x47 : Int) : mf_track_Leg_2 Qh6 Qh7 Qc2 [.view kPce x0, I x1, I x2, I x3, I x4, I x5, I x6, I x7, I x8, I x9, I x10, I x11, I x12, I x13, I x14, I x15, I x16, I x17, I x18, I x19, I x20, I x21, .view Qac x22, I x23, I x24, I x25, I x26, I x27, I x28, I x29, I x30, I x31, .view Qac x32, I x33, I x34, I x35, I x36, I x37, I x38, I x39, I x40, I x41, .view Qac x42, I x43, I x44, I x45, I x46, I x47] =
 (Qh7 [I x9, I x10, I x11, I x1, I x2, I x3, I x4, I x5, I x6, I x12]).bind fun o5 =>
 (Qh6 [I x13, I x14, I x15, I x16, I x17, I x18, I x19, I x20, I x21, .view Qac x22, I x23, I x24, I x25, I x26, I x27, I x28, I x29, I x30, I x31, .view Qac x32, I x33, I x34, I x35, I x36, I x37, I x38, I x39, I x40, I x41, .view Qac x42, I x9, I x10, I x11, jA o5 0, jA o5 1, jA o5 2]).bind fun o6 =>
 bif decide (gA o6 0 > 0) then
 (Qc2 [.view kPce x0, I 0, jA o6 0, I x7, I 0, I x9, I x10, I x11, jA o5 0, jA o5 1, jA o5 2, I x43, I x44, I x45, I x46, I x47]).bind fun o7 =>
 (Qc2 [.view kPce (wA o7 0), I 0, I x8, I x7, I x12, jA o5 0, jA o5 1, jA o5 2, jA o5 0, jA o5 1, jA o5 2, jA o7 1, jA o7 2, jA o7 3, jA o7 4, jA o7 5]).bind fun o8 =>
 some [.view kPce (wA o8 0), jA o5 0, jA o5 1, jA o5 2, I x12, I x13, I x14, I x15, I x16, I x17, I x18, I x19, I x20, I x21, .view Qac x22, I x23, I x24, I x25, I x26, I x27, I x28, I x29, I x30, I x31, .view Qac x32, I x33, I x34, I x35, I x36, I x37, I x38, I x39, I x40, I x41, .view Qac x42, jA o8 1, jA o8 2, jA o8 3, jA o8 4, jA o8 5]
 else
 (Qc2 [.view kPce x0, I 0, I x8, I x7, I x12, jA o5 0, jA o5 1, jA o5 2, jA o5 0, jA o5 1, jA o5 2, I x43, I x44, I x45, I x46, I x47]).bind fun o9 =>
 some [.view kPce (wA o9 0), jA o5 0, jA o5 1, jA o5 2, I x12, I x13, I x14, I x15, I x16, I x17, I x18, I x19, I x20, I x21, .view Qac x22, I x23, I x24, I x25, I x26, I x27, I x28, I x29, I x30, I x31, .view Qac x32, I x33, I x34, I x35, I x36, I x37, I x38, I x39, I x40, I x41, .view Qac x42, jA o9 1, jA o9 2, jA o9 3, jA o9 4, jA o9 5] := by kernel_rfl
def Qc3 := mf_track_Leg_2 Qh9 Qh5 Qhl 
theorem sp_track_Leg_2 : Qar Try.prog (C_track_Leg_2_0 Qh9 Qh5 Qhl) := Qae rfl ⟨r_track_takeUp, r_track_turned, r_track_Leg_1, trivial⟩
theorem r_track_Leg_2 : Qbt Try.prog (84, spOf sig_track_Leg_2 Qlc Qc3) := Qa5 (C := (C_track_Leg_2_0 Qh9 Qh5 Qhl)) (L := 64) (by kernel_rfl) (FnOK.bare rfl rfl rfl) sp_track_Leg_2 eqOk Qbj (by kernel_rfl) (by kernel_rfl)
def sig_track_each : Sk := { tmps := [TS.v true [ci, ci, ci, CS.sl kSgm, CS.sl kPt], tf [ci], tf [ci], tf [ci], tf [CS.clo 84 [] [(20000, 0), (20001, 0), (20002, 0), (20003, 0)]]], boxes := [(20000, 22, [ci, ci, ci]), (20001, 3, [ci]), (20002, 55, [ci, ci, ci, ci, ci, ci, ci, ci, ci, CS.sl Qac, ci, ci, ci, ci, ci, ci, ci, ci, ci, CS.sl Qac, ci, ci, ci, ci, ci, ci, ci, ci, ci, CS.sl Qac]), (20003, 115, [CS.clo 83 [] [(20004, 0)]]), (20004, 61, [CS.own 20000 10, ci, ci, ci, ci, ci])], rows := [(20000, 114, kPce)] }
def osig_track_each : Sk := { tmps := [TS.tup []], boxes := [(20000, 22, [ci, ci, ci]), (20001, 3, [ci]), (20002, 55, [ci, ci, ci, ci, ci, ci, ci, ci, ci, CS.sl Qac, ci, ci, ci, ci, ci, ci, ci, ci, ci, CS.sl Qac, ci, ci, ci, ci, ci, ci, ci, ci, ci, CS.sl Qac]), (20003, 115, [CS.clo 83 [] [(20004, 0)]]), (20004, 61, [CS.own 20000 10, ci, ci, ci, ci, ci])], rows := [(20000, 114, kPce)] }
def C_track_each_0 (Qat : Fn) : Cfg := { spec := Qbq [(84, spOf sig_track_Leg_2 Qlc Qat)], eqOk := Qbu, pure := fun f => !(Qd3 [84] f), ownOff := ownOff, prom := fun b => bif Nat.beq b 4 then [(11, 3)] else [] }
def sk_track_each_4 : Sk := { tmps := [td, tf [ci], tf [ci], tf [ci], tf [CS.clo 84 [] [(20000, 0), (20001, 0), (20002, 0), (20003, 0)]], tf [CS.ptr 5 0], td, td, td, td, tf [ci], tf [CS.own 11 1], td, td, td, td, td, td, td, td, td, tf [CS.sl kSgm], tf [ci], tf [ci]] ++ dd 78, boxes := [(5, 51, [ci, ci, ci, CS.sl kSgm, CS.sl kPt]), (20000, 22, [ci, ci, ci]), (20001, 3, [ci]), (20002, 55, [ci, ci, ci, ci, ci, ci, ci, ci, ci, CS.sl Qac, ci, ci, ci, ci, ci, ci, ci, ci, ci, CS.sl Qac, ci, ci, ci, ci, ci, ci, ci, ci, ci, CS.sl Qac]), (20003, 115, [CS.clo 83 [] [(20004, 0)]]), (20004, 61, [CS.own 20000 10, ci, ci, ci, ci, ci])], rows := [(11, 3, Qac), (20000, 114, kPce)] }
def ex_track_each_4 : List (Ex × Sk) := [(Ex.exit 0, { tmps := [td, tf [ci], tf [ci], tf [ci], tf [CS.clo 84 [] [(20000, 0), (20001, 0), (20002, 0), (20003, 0)]], tf [CS.ptr 5 0], td, td, td, td, td, tf [CS.own 11 1]] ++ dd 90, boxes := [(5, 51, [ci, ci, ci, CS.sl kSgm, CS.sl kPt]), (20000, 22, [ci, ci, ci]), (20001, 3, [ci]), (20002, 55, [ci, ci, ci, ci, ci, ci, ci, ci, ci, CS.sl Qac, ci, ci, ci, ci, ci, ci, ci, ci, ci, CS.sl Qac, ci, ci, ci, ci, ci, ci, ci, ci, ci, CS.sl Qac]), (20003, 115, [CS.clo 83 [] [(20004, 0)]]), (20004, 61, [CS.own 20000 10, ci, ci, ci, ci, ci])], rows := [(11, 3, Qac), (20000, 114, kPce)] })]
def Qmi (Qat : Fn) : Lp := stepL Try.prog (C_track_each_0 Qat) 64 4 (Qg8 Try.prog 87 4) sk_track_each_4 ex_track_each_4
def C_track_each_1 (Qat : Fn) (N4 : Lp) : Cfg := (C_track_each_0 Qat).loop 4 sk_track_each_4 ex_track_each_4 N4
def sk_track_each_10 : Sk := { tmps := [td, tf [ci], tf [ci], tf [ci], tf [CS.clo 84 [] [(20000, 0), (20001, 0), (20002, 0), (20003, 0)]], tf [CS.ptr 5 0], td, td, td, td, td, tf [CS.own 11 1], td, td, td, td, td, td, td, td, td, td, td, td, td, td, td, td, td, td, td, td, td, td, td, td, td, td, tf [ci], tf [ci]] ++ dd 62, boxes := [(5, 51, [ci, ci, ci, CS.sl kSgm, CS.sl kPt]), (20000, 22, [ci, ci, ci]), (20001, 3, [ci]), (20002, 55, [ci, ci, ci, ci, ci, ci, ci, ci, ci, CS.sl Qac, ci, ci, ci, ci, ci, ci, ci, ci, ci, CS.sl Qac, ci, ci, ci, ci, ci, ci, ci, ci, ci, CS.sl Qac]), (20003, 115, [CS.clo 83 [] [(20004, 0)]]), (20004, 61, [CS.own 20000 10, ci, ci, ci, ci, ci])], rows := [(11, 3, Qac), (20000, 114, kPce)] }
def ex_track_each_10 : List (Ex × Sk) := [(Ex.exit 2, { tmps := [td] ++ dd 101, boxes := [(20000, 22, [ci, ci, ci]), (20001, 3, [ci]), (20002, 55, [ci, ci, ci, ci, ci, ci, ci, ci, ci, CS.sl Qac, ci, ci, ci, ci, ci, ci, ci, ci, ci, CS.sl Qac, ci, ci, ci, ci, ci, ci, ci, ci, ci, CS.sl Qac]), (20003, 115, [CS.clo 83 [] [(20004, 0)]]), (20004, 61, [CS.own 20000 10, ci, ci, ci, ci, ci])], rows := [(20000, 114, kPce)] })]
def Qk5 (Qat : Fn) (N4 : Lp) : Lp := stepL Try.prog (C_track_each_1 Qat N4) 64 10 (Qg8 Try.prog 87 10) sk_track_each_10 ex_track_each_10
def C_track_each_2 (Qat : Fn) (N4 N10 : Lp) : Cfg := (C_track_each_1 Qat N4).loop 10 sk_track_each_10 ex_track_each_10 N10
def mf_track_each (Qat : Fn) (N4 N10 : Lp) : Fn := Qau Try.prog (C_track_each_2 Qat N4 N10) 64 87 sig_track_each osig_track_each
theorem st_track_each_4_eq (Qat : Fn) (v0 v1 : Rw) (v2 v3 v4 v5 : Int) (v6 : Rw) (v7 v8 v9 v10 v11 : Int) (v12 v13 : Rw) (v14 v15 v16 v17 v18 v19 v20 v21 v22 v23 v24 v25 v26 : Int) (v27 : Rw) (v28 v29 v30 v31 v32 v33 v34 v35 v36 : Int) (v37 : Rw) (v38 v39 v40 v41 v42 v43 v44 v45 v46 : Int) (v47 : Rw) (v48 v49 v50 v51 v52 : Int) : Qmi Qat [.view Qac v0, .view kPce v1, I v2, I v3, I v4, I v5, .view kSgm v6, I v7, I v8, I v9, I v10, I v11, .view kSgm v12, .view kPt v13, I v14, I v15, I v16, I v17, I v18, I v19, I v20, I v21, I v22, I v23, I v24, I v25, I v26, .view Qac v27, I v28, I v29, I v30, I v31, I v32, I v33, I v34, I v35, I v36, .view Qac v37, I v38, I v39, I v40, I v41, I v42, I v43, I v44, I v45, I v46, .view Qac v47, I v48, I v49, I v50, I v51, I v52] =
 bif decide (v8 < v7) then
 bif decide (0 <= v8) && decide (v8 < (v6.length : Int)) then
 bif ((v0 ++ [[I v5]]).length * 8).ble 140737488355328 then
 some (0, [.view Qac (v0 ++ [[I v5]]), .view kPce v1, I v2, I v3, I v4, I (IntKind.i64.wrap (v5 + gA (nth [] v6 v8.toNat) 3)), .view kSgm v6, I v7, I (IntKind.i64.wrap (v8 + 1)), I v9, I v10, I v11, .view kSgm v12, .view kPt v13, I v14, I v15, I v16, I v17, I v18, I v19, I v20, I v21, I v22, I v23, I v24, I v25, I v26, .view Qac v27, I v28, I v29, I v30, I v31, I v32, I v33, I v34, I v35, I v36, .view Qac v37, I v38, I v39, I v40, I v41, I v42, I v43, I v44, I v45, I v46, .view Qac v47, I v48, I v49, I v50, I v51, I v52])
 else
 none
 else
 none
 else
 some (1, [.view Qac v0, .view kPce v1, I v2, I v3, I v4, I v9, I v10, I v11, .view kSgm v12, .view kPt v13, I v14, I v15, I v16, I v17, I v18, I v19, I v20, I v21, I v22, I v23, I v24, I v25, I v26, .view Qac v27, I v28, I v29, I v30, I v31, I v32, I v33, I v34, I v35, I v36, .view Qac v37, I v38, I v39, I v40, I v41, I v42, I v43, I v44, I v45, I v46, .view Qac v47, I v48, I v49, I v50, I v51, I v52]) := by kernel_rfl
abbrev Qfp (h1_1 : Bool) (Qat : Fn) (v1 : Rw) (h1_8 h1_9 h1_10 h1_12 : AC) (v12 v13 v14 v15 v16 v17 v18 v19 v20 v21 v22 v23 v24 : Int) (v25 : Rw) (v26 v27 v28 v29 v30 v31 v32 v33 v34 : Int) (v35 : Rw) (v36 v37 v38 v39 v40 v41 v42 v43 v44 : Int) (v45 : Rw) (v46 v47 v48 v49 v50 : Int) (v0 : Rw) (v2 v3 v4 v5 v6 v7 v8 v9 : Int) (v10 v11 : Rw) (h2_0 h2_1 h2_2 h2_3 : AC) : Option (Nat × List AC) :=
 bif h1_1 then
 (Qat [.view kPce v1, h2_0, h2_1, h2_2, h1_8, h1_9, h1_10, h2_3, h1_12, I v12, I v13, I v14, I v15, I v16, I v17, I v18, I v19, I v20, I v21, I v22, I v23, I v24, .view Qac v25, I v26, I v27, I v28, I v29, I v30, I v31, I v32, I v33, I v34, .view Qac v35, I v36, I v37, I v38, I v39, I v40, I v41, I v42, I v43, I v44, .view Qac v45, I v46, I v47, I v48, I v49, I v50]).bind fun o11 =>
 some (0, [.view Qac v0, .view kPce (wA o11 0), I v2, I v3, I v4, I v5, I (IntKind.i64.wrap (v6 + 1)), I v7, I v8, I v9, .view kSgm v10, .view kPt v11, jA o11 1, jA o11 2, jA o11 3, jA o11 4, jA o11 5, jA o11 6, jA o11 7, jA o11 8, jA o11 9, jA o11 10, jA o11 11, jA o11 12, jA o11 13, .view Qac (wA o11 14), jA o11 15, jA o11 16, jA o11 17, jA o11 18, jA o11 19, jA o11 20, jA o11 21, jA o11 22, jA o11 23, .view Qac (wA o11 24), jA o11 25, jA o11 26, jA o11 27, jA o11 28, jA o11 29, jA o11 30, jA o11 31, jA o11 32, jA o11 33, .view Qac (wA o11 34), jA o11 35, jA o11 36, jA o11 37, jA o11 38, jA o11 39])
 else
 none
attribute [go_sem] Qfp
abbrev Qlz (v0 v1 : Rw) (v2 v3 v4 v5 v6 v7 v8 v9 : Int) (v10 v11 : Rw) (v12 v13 v14 v15 v16 v17 v18 v19 v20 v21 v22 v23 v24 : Int) (v25 : Rw) (v26 v27 v28 v29 v30 v31 v32 v33 v34 : Int) (v35 : Rw) (v36 v37 v38 v39 v40 v41 v42 v43 v44 : Int) (v45 : Rw) (v46 v47 v48 v49 v50 : Int) (Qat : Fn) (h1_0 h1_1 h1_2 h1_3 h1_4 : Bool) (h1_5 h1_6 h1_7 h1_8 h1_9 h1_10 h1_11 h1_12 h1_13 : AC) : Option (Nat × List AC) :=
 bif h1_0 then
 bif h1_0 then
 bif h1_1 then
 bif h1_2 then
 some (0, [.view Qac v0, .view kPce v1, I v2, I v3, I v4, I v5, I (IntKind.i64.wrap (v6 + 1)), I v7, I v8, I v9, .view kSgm v10, .view kPt v11, I v12, I v13, I v14, I v15, I v16, I v17, I v18, I v19, I v20, I v21, I v22, I v23, I v24, .view Qac v25, I v26, I v27, I v28, I v29, I v30, I v31, I v32, I v33, I v34, .view Qac v35, I v36, I v37, I v38, I v39, I v40, I v41, I v42, I v43, I v44, .view Qac v45, I v46, I v47, I v48, I v49, I v50])
 else
 bif h1_3 then
 bif h1_4 then
 bif decide (v4 < 0) then
 Qfp h1_1 Qat v1 h1_8 h1_9 h1_10 h1_12 v12 v13 v14 v15 v16 v17 v18 v19 v20 v21 v22 v23 v24 v25 v26 v27 v28 v29 v30 v31 v32 v33 v34 v35 v36 v37 v38 v39 v40 v41 v42 v43 v44 v45 v46 v47 v48 v49 v50 v0 v2 v3 v4 v5 v6 v7 v8 v9 v10 v11 h1_5 h1_6 h1_7 h1_11
 else
 Qfp h1_1 Qat v1 h1_8 h1_9 h1_10 h1_12 v12 v13 v14 v15 v16 v17 v18 v19 v20 v21 v22 v23 v24 v25 v26 v27 v28 v29 v30 v31 v32 v33 v34 v35 v36 v37 v38 v39 v40 v41 v42 v43 v44 v45 v46 v47 v48 v49 v50 v0 v2 v3 v4 v5 v6 v7 v8 v9 v10 v11 h1_5 h1_6 h1_7 h1_13
 else
 none
 else
 bif decide (v4 < 0) then
 Qfp h1_1 Qat v1 h1_8 h1_9 h1_10 h1_12 v12 v13 v14 v15 v16 v17 v18 v19 v20 v21 v22 v23 v24 v25 v26 v27 v28 v29 v30 v31 v32 v33 v34 v35 v36 v37 v38 v39 v40 v41 v42 v43 v44 v45 v46 v47 v48 v49 v50 v0 v2 v3 v4 v5 v6 v7 v8 v9 v10 v11 (I v7) (I v8) (I v9) h1_11
 else
 Qfp h1_1 Qat v1 h1_8 h1_9 h1_10 h1_12 v12 v13 v14 v15 v16 v17 v18 v19 v20 v21 v22 v23 v24 v25 v26 v27 v28 v29 v30 v31 v32 v33 v34 v35 v36 v37 v38 v39 v40 v41 v42 v43 v44 v45 v46 v47 v48 v49 v50 v0 v2 v3 v4 v5 v6 v7 v8 v9 v10 v11 (I v7) (I v8) (I v9) h1_13
 else
 none
 else
 none
 else
 none
attribute [go_sem] Qlz
theorem st_track_each_10_eq (Qat : Fn) (N4 : Lp) (v0 v1 : Rw) (v2 v3 v4 v5 v6 v7 v8 v9 : Int) (v10 v11 : Rw) (v12 v13 v14 v15 v16 v17 v18 v19 v20 v21 v22 v23 v24 : Int) (v25 : Rw) (v26 v27 v28 v29 v30 v31 v32 v33 v34 : Int) (v35 : Rw) (v36 v37 v38 v39 v40 v41 v42 v43 v44 : Int) (v45 : Rw) (v46 v47 v48 v49 v50 : Int) : Qk5 Qat N4 [.view Qac v0, .view kPce v1, I v2, I v3, I v4, I v5, I v6, I v7, I v8, I v9, .view kSgm v10, .view kPt v11, I v12, I v13, I v14, I v15, I v16, I v17, I v18, I v19, I v20, I v21, I v22, I v23, I v24, .view Qac v25, I v26, I v27, I v28, I v29, I v30, I v31, I v32, I v33, I v34, .view Qac v35, I v36, I v37, I v38, I v39, I v40, I v41, I v42, I v43, I v44, .view Qac v45, I v46, I v47, I v48, I v49, I v50] =
 bif decide (v6 < v5) then
 bif decide (v4 < 0) then
 Qlz v0 v1 v2 v3 v4 v5 v6 v7 v8 v9 v10 v11 v12 v13 v14 v15 v16 v17 v18 v19 v20 v21 v22 v23 v24 v25 v26 v27 v28 v29 v30 v31 v32 v33 v34 v35 v36 v37 v38 v39 v40 v41 v42 v43 v44 v45 v46 v47 v48 v49 v50 Qat (decide (0 <= IntKind.i64.wrap (IntKind.i64.wrap ((v10.length : Int) - 1) - v6)) && decide (IntKind.i64.wrap (IntKind.i64.wrap ((v10.length : Int) - 1) - v6) < (v0.length : Int))) (decide (0 <= IntKind.i64.wrap (IntKind.i64.wrap ((v10.length : Int) - 1) - v6)) && decide (IntKind.i64.wrap (IntKind.i64.wrap ((v10.length : Int) - 1) - v6) < (v10.length : Int))) (decide (mx (Qaq (nth .dead (nth [] v0 (IntKind.i64.wrap (IntKind.i64.wrap ((v10.length : Int) - 1) - v6)).toNat) 0)) v2 >= mn (IntKind.i64.wrap (Qaq (nth .dead (nth [] v0 (IntKind.i64.wrap (IntKind.i64.wrap ((v10.length : Int) - 1) - v6)).toNat) 0) + Qaq (nth .dead (nth [] v10 (IntKind.i64.wrap (IntKind.i64.wrap ((v10.length : Int) - 1) - v6)).toNat) 3))) v3)) (decide (IntKind.i64.wrap (IntKind.i64.wrap ((v10.length : Int) - 1) - v6) > 0)) (decide (0 <= IntKind.i64.wrap (IntKind.i64.wrap (IntKind.i64.wrap ((v10.length : Int) - 1) - v6) - 1)) && decide (IntKind.i64.wrap (IntKind.i64.wrap (IntKind.i64.wrap ((v10.length : Int) - 1) - v6) - 1) < (v10.length : Int))) (I (Qaq (nth .dead (nth [] v10 (IntKind.i64.wrap (IntKind.i64.wrap (IntKind.i64.wrap ((v10.length : Int) - 1) - v6) - 1)).toNat) 0))) (I (Qaq (nth .dead (nth [] v10 (IntKind.i64.wrap (IntKind.i64.wrap (IntKind.i64.wrap ((v10.length : Int) - 1) - v6) - 1)).toNat) 1))) (I (Qaq (nth .dead (nth [] v10 (IntKind.i64.wrap (IntKind.i64.wrap (IntKind.i64.wrap ((v10.length : Int) - 1) - v6) - 1)).toNat) 2))) (I (Qaq (nth .dead (nth [] v10 (IntKind.i64.wrap (IntKind.i64.wrap ((v10.length : Int) - 1) - v6)).toNat) 0))) (I (Qaq (nth .dead (nth [] v10 (IntKind.i64.wrap (IntKind.i64.wrap ((v10.length : Int) - 1) - v6)).toNat) 1))) (I (Qaq (nth .dead (nth [] v10 (IntKind.i64.wrap (IntKind.i64.wrap ((v10.length : Int) - 1) - v6)).toNat) 2))) (I (mn (IntKind.i64.wrap (Qaq (nth .dead (nth [] v0 (IntKind.i64.wrap (IntKind.i64.wrap ((v10.length : Int) - 1) - v6)).toNat) 0) + Qaq (nth .dead (nth [] v10 (IntKind.i64.wrap (IntKind.i64.wrap ((v10.length : Int) - 1) - v6)).toNat) 3))) v3)) (I (IntKind.i64.wrap (mn (IntKind.i64.wrap (Qaq (nth .dead (nth [] v0 (IntKind.i64.wrap (IntKind.i64.wrap ((v10.length : Int) - 1) - v6)).toNat) 0) + Qaq (nth .dead (nth [] v10 (IntKind.i64.wrap (IntKind.i64.wrap ((v10.length : Int) - 1) - v6)).toNat) 3))) v3 - mx (Qaq (nth .dead (nth [] v0 (IntKind.i64.wrap (IntKind.i64.wrap ((v10.length : Int) - 1) - v6)).toNat) 0)) v2))) (I (mx (Qaq (nth .dead (nth [] v0 (IntKind.i64.wrap (IntKind.i64.wrap ((v10.length : Int) - 1) - v6)).toNat) 0)) v2))
 else
 Qlz v0 v1 v2 v3 v4 v5 v6 v7 v8 v9 v10 v11 v12 v13 v14 v15 v16 v17 v18 v19 v20 v21 v22 v23 v24 v25 v26 v27 v28 v29 v30 v31 v32 v33 v34 v35 v36 v37 v38 v39 v40 v41 v42 v43 v44 v45 v46 v47 v48 v49 v50 Qat (decide (0 <= v6) && decide (v6 < (v0.length : Int))) (decide (0 <= v6) && decide (v6 < (v10.length : Int))) (decide (mx (gA (nth [] v0 v6.toNat) 0) v2 >= mn (IntKind.i64.wrap (gA (nth [] v0 v6.toNat) 0 + gA (nth [] v10 v6.toNat) 3)) v3)) (decide (v6 > 0)) (decide (0 <= IntKind.i64.wrap (v6 - 1)) && decide (IntKind.i64.wrap (v6 - 1) < (v10.length : Int))) (jA (nth [] v10 (IntKind.i64.wrap (v6 - 1)).toNat) 0) (jA (nth [] v10 (IntKind.i64.wrap (v6 - 1)).toNat) 1) (jA (nth [] v10 (IntKind.i64.wrap (v6 - 1)).toNat) 2) (jA (nth [] v10 v6.toNat) 0) (jA (nth [] v10 v6.toNat) 1) (jA (nth [] v10 v6.toNat) 2) (I (mn (IntKind.i64.wrap (gA (nth [] v0 v6.toNat) 0 + gA (nth [] v10 v6.toNat) 3)) v3)) (I (IntKind.i64.wrap (mn (IntKind.i64.wrap (gA (nth [] v0 v6.toNat) 0 + gA (nth [] v10 v6.toNat) 3)) v3 - mx (gA (nth [] v0 v6.toNat) 0) v2))) (I (mx (gA (nth [] v0 v6.toNat) 0) v2))
 else
 some (1, [.view kPce v1, I v12, I v13, I v14, I v15, I v16, I v17, I v18, I v19, I v20, I v21, I v22, I v23, I v24, .view Qac v25, I v26, I v27, I v28, I v29, I v30, I v31, I v32, I v33, I v34, .view Qac v35, I v36, I v37, I v38, I v39, I v40, I v41, I v42, I v43, I v44, .view Qac v45, I v46, I v47, I v48, I v49, I v50]) := by kernel_rfl
theorem mf_track_each_eq (Qat : Fn) (N4 N10 : Lp) (x0 : Rw) (x1 x2 x3 : Int) (x4 x5 : Rw) (x6 x7 x8 x9 x10 x11 x12 x13 x14 x15 x16 x17 x18 x19 x20 x21 : Int) (x22 : Rw) (x23 x24 x25 x26 x27 x28 x29 x30 x31 : Int) (x32 : Rw) (x33 x34 x35 x36 x37 x38 x39 x40 x41 : Int) (x42 : Rw) (x43 x44 x45 x46 x47 : Int) : mf_track_each Qat N4 N10 [.view kPce x0, I x1, I x2, I x3, .view kSgm x4, .view kPt x5, I x6, I x7, I x8, I x9, I x10, I x11, I x12, I x13, I x14, I x15, I x16, I x17, I x18, I x19, I x20, I x21, .view Qac x22, I x23, I x24, I x25, I x26, I x27, I x28, I x29, I x30, I x31, .view Qac x32, I x33, I x34, I x35, I x36, I x37, I x38, I x39, I x40, I x41, .view Qac x42, I x43, I x44, I x45, I x46, I x47] =
 (N4 [.view Qac [], .view kPce x0, I x6, I x7, I x8, I 0, .view kSgm x4, I (x4.length : Int), I 0, I x1, I x2, I x3, .view kSgm x4, .view kPt x5, I x9, I x10, I x11, I x12, I x13, I x14, I x15, I x16, I x17, I x18, I x19, I x20, I x21, .view Qac x22, I x23, I x24, I x25, I x26, I x27, I x28, I x29, I x30, I x31, .view Qac x32, I x33, I x34, I x35, I x36, I x37, I x38, I x39, I x40, I x41, .view Qac x42, I x43, I x44, I x45, I x46, I x47]).bind fun o19 =>
 bif o19.1.beq 1 then
 (N10 [.view Qac (wA o19.2 0), .view kPce (wA o19.2 1), jA o19.2 2, jA o19.2 3, jA o19.2 4, I (↑(wA o19.2 8).length : Int), I 0, jA o19.2 5, jA o19.2 6, jA o19.2 7, .view kSgm (wA o19.2 8), .view kPt (wA o19.2 9), jA o19.2 10, jA o19.2 11, jA o19.2 12, jA o19.2 13, jA o19.2 14, jA o19.2 15, jA o19.2 16, jA o19.2 17, jA o19.2 18, jA o19.2 19, jA o19.2 20, jA o19.2 21, jA o19.2 22, .view Qac (wA o19.2 23), jA o19.2 24, jA o19.2 25, jA o19.2 26, jA o19.2 27, jA o19.2 28, jA o19.2 29, jA o19.2 30, jA o19.2 31, jA o19.2 32, .view Qac (wA o19.2 33), jA o19.2 34, jA o19.2 35, jA o19.2 36, jA o19.2 37, jA o19.2 38, jA o19.2 39, jA o19.2 40, jA o19.2 41, jA o19.2 42, .view Qac (wA o19.2 43), jA o19.2 44, jA o19.2 45, jA o19.2 46, jA o19.2 47, jA o19.2 48]).bind fun o20 =>
 bif o20.1.beq 1 then
 some [.view kPce (wA o20.2 0), jA o20.2 1, jA o20.2 2, jA o20.2 3, jA o20.2 4, jA o20.2 5, jA o20.2 6, jA o20.2 7, jA o20.2 8, jA o20.2 9, jA o20.2 10, jA o20.2 11, jA o20.2 12, jA o20.2 13, .view Qac (wA o20.2 14), jA o20.2 15, jA o20.2 16, jA o20.2 17, jA o20.2 18, jA o20.2 19, jA o20.2 20, jA o20.2 21, jA o20.2 22, jA o20.2 23, .view Qac (wA o20.2 24), jA o20.2 25, jA o20.2 26, jA o20.2 27, jA o20.2 28, jA o20.2 29, jA o20.2 30, jA o20.2 31, jA o20.2 32, jA o20.2 33, .view Qac (wA o20.2 34), jA o20.2 35, jA o20.2 36, jA o20.2 37, jA o20.2 38, jA o20.2 39]
 else
 none
 else
 none := by kernel_rfl
def Qh4 := Qby (Qmi Qc3 )
def l_track_each_10 := Qby (Qk5 Qc3 Qh4)
def m_track_each := mf_track_each Qc3 Qh4 l_track_each_10
theorem sp_track_each : Qar Try.prog (C_track_each_0 Qc3) := Qae rfl ⟨r_track_Leg_2, trivial⟩
theorem r_track_each : Qbt Try.prog (87, spOf sig_track_each osig_track_each m_track_each) := Qa5 (C := (C_track_each_2 Qc3 Qh4 l_track_each_10)) (L := 64) (by kernel_rfl) (((FnOK.bare rfl rfl rfl).loop sp_track_each eqOk Qbj (by kernel_rfl) (by kernel_rfl)).loop sp_track_each eqOk Qbj (by kernel_rfl) (by kernel_rfl)) sp_track_each eqOk Qbj (by kernel_rfl) (by kernel_rfl)
def Qng : Sk := { tmps := [TS.v true [ci, ci, ci, CS.sl kSgm, CS.sl kPt]], boxes := [], rows := [] }
def Qlb : Sk := { tmps := [tf [ci]], boxes := [], rows := [] }
def C_path_Length_0 : Cfg := { spec := Qbq [], eqOk := Qbu, ownOff := ownOff }
def sk_path_Length_3 : Sk := { tmps := [td, td, td, tf [ci], td, td, td, tf [CS.sl kSgm], tf [ci], tf [ci]] ++ dd 9, boxes := [], rows := [] }
def ex_path_Length_3 : List (Ex × Sk) := [(Ex.exit 0, { tmps := [td, td, td, tf [ci]] ++ dd 15, boxes := [], rows := [] })]
def Qk3 : Lp := stepL Try.prog C_path_Length_0 64 3 (Qg8 Try.prog 46 3) sk_path_Length_3 ex_path_Length_3
def C_path_Length_1 (N3 : Lp) : Cfg := C_path_Length_0.loop 3 sk_path_Length_3 ex_path_Length_3 N3
def mf_path_Length (N3 : Lp) : Fn := Qau Try.prog (C_path_Length_1 N3) 64 46 Qng Qlb
theorem st_path_Length_3_eq (v0 : Int) (v1 : Rw) (v2 v3 : Int) : Qk3 [I v0, .view kSgm v1, I v2, I v3] =
 bif decide (v3 < v2) then
 bif decide (0 <= v3) && decide (v3 < (v1.length : Int)) then
 some (0, [I (IntKind.i64.wrap (v0 + gA (nth [] v1 v3.toNat) 3)), .view kSgm v1, I v2, I (IntKind.i64.wrap (v3 + 1))])
 else
 none
 else
 some (1, [I v0]) := by kernel_rfl
theorem mf_path_Length_eq (N3 : Lp) (x0 x1 x2 : Int) (x3 x4 : Rw) : mf_path_Length N3 [I x0, I x1, I x2, .view kSgm x3, .view kPt x4] =
 (N3 [I 0, .view kSgm x3, I (x3.length : Int), I 0]).bind fun o1 =>
 bif o1.1.beq 1 then
 some [jA o1.2 0]
 else
 none := by kernel_rfl
def Qnp := Qby (Qk3 )
def Qe5 := mf_path_Length Qnp
theorem sp_path_Length : Qar Try.prog (C_path_Length_0 ) := Qae rfl trivial
theorem r_path_Length : Qbt Try.prog (46, spOf Qng Qlb Qe5) := Qa5 (C := (C_path_Length_1 Qnp)) (L := 64) (by kernel_rfl) ((FnOK.bare rfl rfl rfl).loop sp_path_Length eqOk Qbj (by kernel_rfl) (by kernel_rfl)) sp_path_Length eqOk Qbj (by kernel_rfl) (by kernel_rfl)
def sig_track_Leg : Sk := { tmps := [TS.v true [ci, ci, ci, CS.sl kSgm, CS.sl kPt], TS.v true [ci, ci, ci, ci, ci, ci, ci, ci, ci, CS.sl Qac, ci, ci, ci, ci, ci, ci, ci, ci, ci, CS.sl Qac, ci, ci, ci, ci, ci, ci, ci, ci, ci, CS.sl Qac], TS.v true [ci, ci, ci], tf [ci], tf [ci]], boxes := [], rows := [] }
def osig_track_Leg : Sk := { tmps := [TS.v true [CS.sl kPce, ci, ci, ci, ci, ci]], boxes := [], rows := [] }
def C_track_Leg_0 (Qi7 Qat Qc2 Qbm Qdc : Fn) : Cfg := { spec := Qbq [(87, spOf sig_track_each osig_track_each Qi7), (84, spOf sig_track_Leg_2 Qlc Qat), (83, spOf Qmu Qlf Qc2), (82, spOf Qjb Qhv Qbm), (46, spOf Qng Qlb Qdc)], eqOk := Qbu, pure := fun f => !(Qd3 [87, 84, 83] f), ownOff := ownOff }
def mf_track_Leg (Qi7 Qat Qc2 Qbm Qdc : Fn) : Fn := Qau Try.prog (C_track_Leg_0 Qi7 Qat Qc2 Qbm Qdc) 64 36 sig_track_Leg osig_track_Leg
theorem mf_track_Leg_eq (Qi7 Qat Qc2 Qbm Qdc : Fn) (x0 x1 x2 : Int) (x3 x4 : Rw) (x5 x6 x7 x8 x9 x10 x11 x12 x13 : Int) (x14 : Rw) (x15 x16 x17 x18 x19 x20 x21 x22 x23 : Int) (x24 : Rw) (x25 x26 x27 x28 x29 x30 x31 x32 x33 : Int) (x34 : Rw) (x35 x36 x37 x38 x39 : Int) : mf_track_Leg Qi7 Qat Qc2 Qbm Qdc [I x0, I x1, I x2, .view kSgm x3, .view kPt x4, I x5, I x6, I x7, I x8, I x9, I x10, I x11, I x12, I x13, .view Qac x14, I x15, I x16, I x17, I x18, I x19, I x20, I x21, I x22, I x23, .view Qac x24, I x25, I x26, I x27, I x28, I x29, I x30, I x31, I x32, I x33, .view Qac x34, I x35, I x36, I x37, I x38, I x39] =
 (Qdc [I x0, I x1, I x2, .view kSgm x3, .view kPt x4]).bind fun o5 =>
 (Qbm [I x38, jA o5 0]).bind fun o6 =>
 (Qbm [I x39, jA o5 0]).bind fun o7 =>
 bif decide (gA o6 0 > gA o7 0) then
 (Qi7 [.view kPce [], I x0, I x1, I x2, .view kSgm x3, .view kPt x4, I (mn (gA o6 0) (gA o7 0)), I (mx (gA o6 0) (gA o7 0)), I (-1), I x35, I x36, I x37, I (-1), I x5, I x6, I x7, I x8, I x9, I x10, I x11, I x12, I x13, .view Qac x14, I x15, I x16, I x17, I x18, I x19, I x20, I x21, I x22, I x23, .view Qac x24, I x25, I x26, I x27, I x28, I x29, I x30, I x31, I x32, I x33, .view Qac x34, I 0, jA o6 0, I x35, I x36, I x37]).bind fun o8 =>
 some [.view kPce (wA o8 0), jA o8 35, jA o8 36, jA o8 37, jA o8 38, jA o8 39]
 else
 (Qi7 [.view kPce [], I x0, I x1, I x2, .view kSgm x3, .view kPt x4, I (mn (gA o6 0) (gA o7 0)), I (mx (gA o6 0) (gA o7 0)), I 1, I x35, I x36, I x37, I 1, I x5, I x6, I x7, I x8, I x9, I x10, I x11, I x12, I x13, .view Qac x14, I x15, I x16, I x17, I x18, I x19, I x20, I x21, I x22, I x23, .view Qac x24, I x25, I x26, I x27, I x28, I x29, I x30, I x31, I x32, I x33, .view Qac x34, I 0, jA o6 0, I x35, I x36, I x37]).bind fun o9 =>
 some [.view kPce (wA o9 0), jA o9 35, jA o9 36, jA o9 37, jA o9 38, jA o9 39] := by kernel_rfl
def m_track_Leg := mf_track_Leg m_track_each Qc3 Qhl Qdr Qe5 
theorem sp_track_Leg : Qar Try.prog (C_track_Leg_0 m_track_each Qc3 Qhl Qdr Qe5) := Qae rfl ⟨r_track_each, r_track_Leg_2, r_track_Leg_1, r_track_clamp, r_path_Length, trivial⟩
theorem r_track_Leg : Qbt Try.prog (36, spOf sig_track_Leg osig_track_Leg m_track_Leg) := Qa5 (C := (C_track_Leg_0 m_track_each Qc3 Qhl Qdr Qe5)) (L := 64) (by kernel_rfl) (FnOK.bare rfl rfl rfl) sp_track_Leg eqOk Qbj (by kernel_rfl) (by kernel_rfl)
def sig_cncmill_Mod : Sk := { tmps := [tf [ci], tf [ci]], boxes := [], rows := [] }
def Qlk : Sk := { tmps := [tf [ci]], boxes := [], rows := [] }
def C_cncmill_Mod_0 : Cfg := { spec := Qbq [], eqOk := Qbu, ownOff := ownOff }
def mf_cncmill_Mod : Fn := Qau Try.prog C_cncmill_Mod_0 64 23 sig_cncmill_Mod Qlk
theorem mf_cncmill_Mod_eq (x0 x1 : Int) : mf_cncmill_Mod [I x0, I x1] =
 bif decide (x1 = 0) then
 none
 else
 bif decide (x1 = 0) then
 none
 else
 some [I ((IntKind.i64.wrap (x0.tmod x1 + x1)).tmod x1)] := by kernel_rfl
def Qe6 := mf_cncmill_Mod 
theorem sp_cncmill_Mod : Qar Try.prog (C_cncmill_Mod_0 ) := Qae rfl trivial
theorem r_cncmill_Mod : Qbt Try.prog (23, spOf sig_cncmill_Mod Qlk Qe6) := Qa5 (C := C_cncmill_Mod_0) (L := 64) (by kernel_rfl) (FnOK.bare rfl rfl rfl) sp_cncmill_Mod eqOk Qbj (by kernel_rfl) (by kernel_rfl)
def Qcr : Sk := { tmps := [tf [CS.ptr 20000 0], tf [ci]], boxes := [(20000, 138, [CS.sl Qac, ci])], rows := [] }
def Qci : Sk := { tmps := [tf [ci]], boxes := [(20000, 138, [CS.sl Qac, ci])], rows := [] }
def Qhp (Qb8 : Fn) : Cfg := { spec := Qbq [(23, spOf sig_cncmill_Mod Qlk Qb8)], eqOk := Qbu, ownOff := ownOff }
def Qip (Qb8 : Fn) : Fn := Qau Try.prog (Qhp Qb8) 64 61 Qcr Qci
theorem mf_cncmill_Source_Next_eq (Qb8 : Fn) (x0 : Int) (x1 : Rw) (x2 : Int) : Qip Qb8 [I x0, .view Qac x1, I x2] =
 bif decide (x2 >= (x1.length : Int)) then
 some [I 0, .view Qac x1, I x2]
 else
 bif decide (0 <= x2) && decide (x2 < (x1.length : Int)) then
 (Qb8 [jA (nth [] x1 x2.toNat) 0, I x0]).bind fun o1 =>
 some [jA o1 0, .view Qac x1, I (IntKind.i64.wrap (x2 + 1))]
 else
 none := by kernel_rfl
def Qao := Qip Qe6 
theorem sp_cncmill_Source_Next : Qar Try.prog (Qhp Qe6) := Qae rfl ⟨r_cncmill_Mod, trivial⟩
theorem Qet : Qbt Try.prog (61, spOf Qcr Qci Qao) := Qa5 (C := (Qhp Qe6)) (L := 64) (by kernel_rfl) (FnOK.bare rfl rfl rfl) sp_cncmill_Source_Next eqOk Qbj (by kernel_rfl) (by kernel_rfl)
def sig_cncmill_Axis : Sk := { tmps := [tf [CS.ptr 20000 0]], boxes := [(20000, 138, [CS.sl Qac, ci])], rows := [] }
def osig_cncmill_Axis : Sk := { tmps := [TS.v true [ci, ci, ci, ci, ci, ci, ci, ci, ci, CS.sl Qac]], boxes := [(20000, 138, [CS.sl Qac, ci])], rows := [] }
def C_cncmill_Axis_0 (Qaa : Fn) : Cfg := { spec := Qbq [(61, spOf Qcr Qci Qaa)], eqOk := Qbu, pure := fun f => !(Qd3 [61] f), ownOff := ownOffX }
def sk_cncmill_Axis_11 : Sk := { tmps := [tf [CS.ptr 20000 0], td, tf [CS.ptr 2 0], tf [CS.ptr 3 0], tf [ci], tf [ci], tf [ci]] ++ dd 72, boxes := [(2, 54, [ci, ci, ci, ci, ci, ci, ci, ci, ci, CS.own 1002009 1]), (3, 54, [ci, ci, ci, ci, ci, ci, ci, ci, ci, CS.own 1003009 1]), (20000, 138, [CS.sl Qac, ci])], rows := [(1002009, 3, Qac), (1003009, 3, Qac)] }
def ex_cncmill_Axis_11 : List (Ex × Sk) := [(Ex.exit 0, { tmps := [td, td, tf [CS.ptr 2 0], tf [CS.ptr 3 0]] ++ dd 75, boxes := [(2, 54, [ci, ci, ci, ci, ci, ci, ci, ci, ci, CS.own 1002009 1]), (3, 54, [ci, ci, ci, ci, ci, ci, ci, ci, ci, CS.own 1003009 1]), (20000, 138, [CS.sl Qac, ci])], rows := [(1002009, 3, Qac), (1003009, 3, Qac)] })]
def Qis (Qaa : Fn) : Lp := stepL Try.prog (C_cncmill_Axis_0 Qaa) 64 11 (Qg8 Try.prog 81 11) sk_cncmill_Axis_11 ex_cncmill_Axis_11
def C_cncmill_Axis_1 (Qaa : Fn) (N11 : Lp) : Cfg := (C_cncmill_Axis_0 Qaa).loop 11 sk_cncmill_Axis_11 ex_cncmill_Axis_11 N11
def mf_cncmill_Axis (Qaa : Fn) (N11 : Lp) : Fn := Qau Try.prog (C_cncmill_Axis_1 Qaa N11) 64 81 sig_cncmill_Axis osig_cncmill_Axis
theorem st_cncmill_Axis_11_eq (Qaa : Fn) (v0 v1 : Rw) (v2 v3 v4 v5 v6 v7 v8 v9 v10 v11 v12 v13 v14 v15 v16 v17 v18 v19 v20 v21 v22 : Int) (v23 : Rw) (v24 : Int) : Qis Qaa [.view Qac v0, .view Qac v1, I v2, I v3, I v4, I v5, I v6, I v7, I v8, I v9, I v10, I v11, I v12, I v13, I v14, I v15, I v16, I v17, I v18, I v19, I v20, I v21, I v22, .view Qac v23, I v24] =
 bif decide (v4 < v2) then
 bif ((v1 ++ [[I v3]]).length * 8).ble 140737488355328 then
 (Qaa [I (IntKind.i64.wrap (IntKind.i64.wrap (2 * IntKind.i64.wrap (v22.tdiv 4)) + 1)), .view Qac v23, I v24]).bind fun o20 =>
 some (0, [.view Qac v0, .view Qac (v1 ++ [[I v3]]), I v2, I (mn (mx (IntKind.i64.wrap (IntKind.i64.wrap (v3 + gA o20 0) - IntKind.i64.wrap (v22.tdiv 4))) (-4096)) 4096), I (IntKind.i64.wrap (v4 + 1)), I v5, I v6, I v7, I v8, I v9, I v10, I v11, I v12, I v13, I v14, I v15, I v16, I v17, I v18, I v19, I v20, I v21, I v22, .view Qac (wA o20 1), jA o20 2])
 else
 none
 else
 some (1, [.view Qac v0, .view Qac v1, I v5, I v6, I v7, I v8, I v9, I v10, I v11, I v12, I v13, I v14, I v15, I v16, I v17, I v18, I v19, I v20, I v21, I v22, .view Qac v23, I v24]) := by kernel_rfl
theorem mf_cncmill_Axis_eq (Qaa : Fn) (N11 : Lp) (x0 : Rw) (x1 : Int) : mf_cncmill_Axis Qaa N11 [.view Qac x0, I x1] =
 (Qaa [I 6, .view Qac x0, I x1]).bind fun o21 =>
 bif decide (0 <= gA o21 0) && decide (gA o21 0 < (↑[[I 8], [I 4], [I 5], [I 16], [I 23], [I 64]].length : Int)) then
 (Qaa [I 4, .view Qac (wA o21 1), jA o21 2]).bind fun o22 =>
 bif decide (0 <= gA o22 0) && decide (gA o22 0 < (↑[[I 0], [I 1], [I 3], [I 6]].length : Int)) then
 (Qaa [I 5, .view Qac (wA o22 1), jA o22 2]).bind fun o23 =>
 bif decide (0 <= gA o23 0) && decide (gA o23 0 < (↑[[I 40], [I 1], [I 3], [I 9], [I 1000]].length : Int)) then
 (Qaa [I 5, .view Qac (wA o23 1), jA o23 2]).bind fun o24 =>
 bif decide (0 <= gA o24 0) && decide (gA o24 0 < (↑[[I 20], [I 2], [I 3], [I 5], [I 1000]].length : Int)) then
 (Qaa [I 5, .view Qac (wA o24 1), jA o24 2]).bind fun o25 =>
 bif decide (0 <= gA o25 0) && decide (gA o25 0 < (↑[[I 30], [I 4], [I 5], [I 8], [I 1000]].length : Int)) then
 (Qaa [I 5, .view Qac (wA o25 1), jA o25 2]).bind fun o26 =>
 bif gA o26 0 == 0 then
 some [I (Qaq (nth .dead (nth [] [[I 8], [I 4], [I 5], [I 16], [I 23], [I 64]] (gA o21 0).toNat) 0)), I (Qaq (nth .dead (nth [] [[I 40], [I 1], [I 3], [I 9], [I 1000]] (gA o23 0).toNat) 0)), I (Qaq (nth .dead (nth [] [[I 20], [I 2], [I 3], [I 5], [I 1000]] (gA o24 0).toNat) 0)), I (Qaq (nth .dead (nth [] [[I 30], [I 4], [I 5], [I 8], [I 1000]] (gA o25 0).toNat) 0)), I (-16777216), I 16777216, I (Qaq (nth .dead (nth [] [[I 0], [I 1], [I 3], [I 6]] (gA o22 0).toNat) 0)), I 0, I 0, .view Qac [], .view Qac (wA o26 1), jA o26 2]
 else
 (Qaa [I 400, .view Qac (wA o26 1), jA o26 2]).bind fun o27 =>
 (Qaa [I 120, .view Qac (wA o27 1), jA o27 2]).bind fun o28 =>
 (Qaa [I 9, .view Qac (wA o28 1), jA o28 2]).bind fun o29 =>
 (N11 [.view Qac [], .view Qac [], jA o26 0, I (IntKind.i64.wrap (gA o29 0 - 4)), I 0, I 0, I 0, I 0, I 0, I 0, I 0, I 0, I 0, I 0, I (Qaq (nth .dead (nth [] [[I 8], [I 4], [I 5], [I 16], [I 23], [I 64]] (gA o21 0).toNat) 0)), I (Qaq (nth .dead (nth [] [[I 40], [I 1], [I 3], [I 9], [I 1000]] (gA o23 0).toNat) 0)), I (Qaq (nth .dead (nth [] [[I 20], [I 2], [I 3], [I 5], [I 1000]] (gA o24 0).toNat) 0)), I (Qaq (nth .dead (nth [] [[I 30], [I 4], [I 5], [I 8], [I 1000]] (gA o25 0).toNat) 0)), I (-16777216), I 16777216, I (Qaq (nth .dead (nth [] [[I 0], [I 1], [I 3], [I 6]] (gA o22 0).toNat) 0)), I (IntKind.i64.wrap (gA o27 0 - 200)), I (IntKind.i64.wrap (4 + gA o28 0)), .view Qac (wA o29 1), jA o29 2]).bind fun o30 =>
 bif o30.1.beq 1 then
 some [jA o30.2 11, jA o30.2 12, jA o30.2 13, jA o30.2 14, jA o30.2 15, jA o30.2 16, jA o30.2 17, jA o30.2 18, jA o30.2 19, .view Qac (wA o30.2 1), .view Qac (wA o30.2 20), jA o30.2 21]
 else
 none
 else
 none
 else
 none
 else
 none
 else
 none
 else
 none := by kernel_rfl
def l_cncmill_Axis_11 := Qby (Qis Qao )
def Qh8 := mf_cncmill_Axis Qao l_cncmill_Axis_11
theorem sp_cncmill_Axis : Qar Try.prog (C_cncmill_Axis_0 Qao) := Qae rfl ⟨Qet, trivial⟩
theorem r_cncmill_Axis : Qbt Try.prog (81, spOf sig_cncmill_Axis osig_cncmill_Axis Qh8) := Qa5 (C := (C_cncmill_Axis_1 Qao l_cncmill_Axis_11)) (L := 64) (by kernel_rfl) ((FnOK.bare rfl rfl rfl).loop sp_cncmill_Axis eqOk Qbj (by kernel_rfl) (by kernel_rfl)) sp_cncmill_Axis eqOk Qbj (by kernel_rfl) (by kernel_rfl)
def Qk6 : Sk := { tmps := [tf [CS.sl Qac]], boxes := [], rows := [] }
def Qj8 : Sk := { tmps := [tf [CS.ptr 5 0]], boxes := [(5, 138, [CS.sl Qac, ci])], rows := [] }
def C_cncmill_From_0 : Cfg := { spec := Qbq [], eqOk := Qbu, ownOff := ownOff }
def mf_cncmill_From : Fn := Qau Try.prog C_cncmill_From_0 64 59 Qk6 Qj8
theorem mf_cncmill_From_eq (x0 : Rw) : mf_cncmill_From [.view Qac x0] =
 some [.view Qac x0, I 0] := by kernel_rfl
def Qc8 := mf_cncmill_From 
theorem sp_cncmill_From : Qar Try.prog (C_cncmill_From_0 ) := Qae rfl trivial
theorem r_cncmill_From : Qbt Try.prog (59, spOf Qk6 Qj8 Qc8) := Qa5 (C := C_cncmill_From_0) (L := 64) (by kernel_rfl) (FnOK.bare rfl rfl rfl) sp_cncmill_From eqOk Qbj (by kernel_rfl) (by kernel_rfl)
def sig_cncmill_Axes : Sk := { tmps := [tf [CS.sl Qac]], boxes := [], rows := [] }
def osig_cncmill_Axes : Sk := { tmps := [TS.v true [ci, ci, ci, ci, ci, ci, ci, ci, ci, CS.sl Qac, ci, ci, ci, ci, ci, ci, ci, ci, ci, CS.sl Qac, ci, ci, ci, ci, ci, ci, ci, ci, ci, CS.sl Qac]], boxes := [], rows := [] }
def C_cncmill_Axes_0 (Qfd Qbl : Fn) : Cfg := { spec := Qbq [(81, spOf sig_cncmill_Axis osig_cncmill_Axis Qfd), (59, spOf Qk6 Qj8 Qbl)], eqOk := Qbu, pure := fun f => !(Qd3 [81, 59] f), ownOff := ownOff }
def mf_cncmill_Axes (Qfd Qbl : Fn) : Fn := Qau Try.prog (C_cncmill_Axes_0 Qfd Qbl) 64 33 sig_cncmill_Axes osig_cncmill_Axes
theorem mf_cncmill_Axes_eq (Qfd Qbl : Fn) (x0 : Rw) : mf_cncmill_Axes Qfd Qbl [.view Qac x0] =
 (Qbl [.view Qac x0]).bind fun o4 =>
 (Qfd [.view Qac (wA o4 0), jA o4 1]).bind fun o5 =>
 (Qfd [.view Qac (wA o5 10), jA o5 11]).bind fun o6 =>
 (Qfd [.view Qac (wA o6 10), jA o6 11]).bind fun o7 =>
 some [jA o5 0, jA o5 1, jA o5 2, jA o5 3, jA o5 4, jA o5 5, jA o5 6, jA o5 7, jA o5 8, .view Qac (wA o5 9), jA o6 0, jA o6 1, jA o6 2, jA o6 3, jA o6 4, jA o6 5, jA o6 6, jA o6 7, jA o6 8, .view Qac (wA o6 9), jA o7 0, jA o7 1, jA o7 2, jA o7 3, jA o7 4, jA o7 5, jA o7 6, jA o7 7, jA o7 8, .view Qac (wA o7 9)] := by kernel_rfl
def Qic := mf_cncmill_Axes Qh8 Qc8 
theorem sp_cncmill_Axes : Qar Try.prog (C_cncmill_Axes_0 Qh8 Qc8) := Qae rfl ⟨r_cncmill_Axis, r_cncmill_From, trivial⟩
theorem r_cncmill_Axes : Qbt Try.prog (33, spOf sig_cncmill_Axes osig_cncmill_Axes Qic) := Qa5 (C := (C_cncmill_Axes_0 Qh8 Qc8)) (L := 64) (by kernel_rfl) (FnOK.bare rfl rfl rfl) sp_cncmill_Axes eqOk Qbj (by kernel_rfl) (by kernel_rfl)
end Go.Bm
