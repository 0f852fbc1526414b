/- functions of the program and of the references, as models -/
import Derived.Test.YtdllaekpkcanbaaSeShelf
import Derived.Test.YtdllaekpkcanbaaSeExt
import Derived.Test.YtdllaekpkcanbaaSePre
import Derived.Test.YtdllaekpkcanbaaBmTy
set_option linter.unusedSimpArgs false
set_option linter.unusedVariables false
set_option maxRecDepth 100000
noncomputable section
namespace Go.Bm
open Go.Proofs
def sig_backlash_Shift : Sk := { tmps := [TS.v true [ci, ci, ci, ci, ci, ci, ci, ci, ci, CS.sl kInts], tf [ci]], boxes := [], rows := [] }
def osig_backlash_Shift : Sk := { tmps := [tf [ci]], boxes := [], rows := [] }
def C_backlash_Shift_0 : Cfg := { spec := lookS [], eqOk := eqAll, ownOff := ownOff }
def mf_backlash_Shift : Fn := modelF Try.prog C_backlash_Shift_0 64 90 sig_backlash_Shift osig_backlash_Shift
theorem mf_backlash_Shift_eq (x0 x1 x2 x3 x4 x5 x6 x7 x8 : Int) (x9 : Rw) (x10 : Int) : mf_backlash_Shift [I x0, I x1, I x2, I x3, I x4, I x5, I x6, I x7, I x8, .view kInts x9, I x10] =
 bif x10 == -1 then
 some [I (IntKind.i64.wrap (0 - x6))]
 else
 some [I 0] := by kernel_rfl
def m_backlash_Shift := mf_backlash_Shift 
theorem sp_backlash_Shift : SpecOK Try.prog (C_backlash_Shift_0 ) := specOK_of rfl trivial
theorem r_backlash_Shift : RowOK Try.prog (90, spOf sig_backlash_Shift osig_backlash_Shift m_backlash_Shift) := row_of (C := C_backlash_Shift_0) (L := 64) (by kernel_rfl) (FnOK.bare rfl rfl rfl) sp_backlash_Shift eqOk mixOk (by kernel_rfl) (by kernel_rfl)
def sig_track_shift : Sk := { tmps := [TS.v true [ci, ci, ci, ci, ci, ci, ci, ci, ci, CS.sl kInts], TS.v true [ci, ci, ci, ci, ci, ci, ci, ci, ci, ci], tf [ci], tf [ci]], boxes := [], rows := [] }
def osig_track_shift : Sk := { tmps := [tf [ci]], boxes := [], rows := [] }
def C_track_shift_0 (M_backlash_Shift : Fn) : Cfg := { spec := lookS [(90, spOf sig_backlash_Shift osig_backlash_Shift M_backlash_Shift)], eqOk := eqAll, ownOff := ownOff }
def mf_track_shift (M_backlash_Shift : Fn) : Fn := modelF Try.prog (C_track_shift_0 M_backlash_Shift) 64 91 sig_track_shift osig_track_shift
theorem mf_track_shift_eq (M_backlash_Shift : Fn) (x0 x1 x2 x3 x4 x5 x6 x7 x8 : Int) (x9 : Rw) (x10 x11 x12 x13 x14 x15 x16 x17 x18 x19 x20 x21 : Int) : mf_track_shift M_backlash_Shift [I x0, I x1, I x2, I x3, I x4, I x5, I x6, I x7, I x8, .view kInts x9, I x10, I x11, I x12, I x13, I x14, I x15, I x16, I x17, I x18, I x19, I x20, I x21] =
 bif x13 != 0 then
 bif decide (x20 = (↑0 : Int)) then
 (M_backlash_Shift [I x0, I x1, I x2, I x3, I x4, I x5, I x6, I x7, I x8, .view kInts x9, I x17]).bind fun o30 =>
 some [jA o30 0]
 else
 bif decide (x20 = (↑(0 + 1) : Int)) then
 (M_backlash_Shift [I x0, I x1, I x2, I x3, I x4, I x5, I x6, I x7, I x8, .view kInts x9, I x18]).bind fun o31 =>
 some [jA o31 0]
 else
 bif decide (x20 = (↑(0 + 1 + 1) : Int)) then
 (M_backlash_Shift [I x0, I x1, I x2, I x3, I x4, I x5, I x6, I x7, I x8, .view kInts x9, I x19]).bind fun o32 =>
 some [jA o32 0]
 else
 none
 else
 bif decide (x20 = (↑0 : Int)) then
 bif decide (x20 = (↑0 : Int)) then
 bif x14 == x17 then
 bif decide (x20 = (↑0 : Int)) then
 (M_backlash_Shift [I x0, I x1, I x2, I x3, I x4, I x5, I x6, I x7, I x8, .view kInts x9, I x17]).bind fun o33 =>
 some [jA o33 0]
 else
 bif decide (x20 = (↑(0 + 1) : Int)) then
 (M_backlash_Shift [I x0, I x1, I x2, I x3, I x4, I x5, I x6, I x7, I x8, .view kInts x9, I x18]).bind fun o34 =>
 some [jA o34 0]
 else
 bif decide (x20 = (↑(0 + 1 + 1) : Int)) then
 (M_backlash_Shift [I x0, I x1, I x2, I x3, I x4, I x5, I x6, I x7, I x8, .view kInts x9, I x19]).bind fun o35 =>
 some [jA o35 0]
 else
 none
 else
 bif decide (x20 = (↑0 : Int)) then
 bif x17 == -1 then
 some [I (IntKind.i64.wrap (0 - mn (IntKind.i64.wrap (x21 - x10)) x6))]
 else
 some [I (IntKind.i64.wrap (mn (IntKind.i64.wrap (x21 - x10)) x6 - x6))]
 else
 bif decide (x20 = (↑(0 + 1) : Int)) then
 bif x18 == -1 then
 some [I (IntKind.i64.wrap (0 - mn (IntKind.i64.wrap (x21 - x10)) x6))]
 else
 some [I (IntKind.i64.wrap (mn (IntKind.i64.wrap (x21 - x10)) x6 - x6))]
 else
 bif decide (x20 = (↑(0 + 1 + 1) : Int)) then
 bif x19 == -1 then
 some [I (IntKind.i64.wrap (0 - mn (IntKind.i64.wrap (x21 - x10)) x6))]
 else
 some [I (IntKind.i64.wrap (mn (IntKind.i64.wrap (x21 - x10)) x6 - x6))]
 else
 none
 else
 bif decide (x20 = (↑(0 + 1) : Int)) then
 bif x14 == x18 then
 bif decide (x20 = (↑0 : Int)) then
 (M_backlash_Shift [I x0, I x1, I x2, I x3, I x4, I x5, I x6, I x7, I x8, .view kInts x9, I x17]).bind fun o36 =>
 some [jA o36 0]
 else
 bif decide (x20 = (↑(0 + 1) : Int)) then
 (M_backlash_Shift [I x0, I x1, I x2, I x3, I x4, I x5, I x6, I x7, I x8, .view kInts x9, I x18]).bind fun o37 =>
 some [jA o37 0]
 else
 bif decide (x20 = (↑(0 + 1 + 1) : Int)) then
 (M_backlash_Shift [I x0, I x1, I x2, I x3, I x4, I x5, I x6, I x7, I x8, .view kInts x9, I x19]).bind fun o38 =>
 some [jA o38 0]
 else
 none
 else
 bif decide (x20 = (↑0 : Int)) then
 bif x17 == -1 then
 some [I (IntKind.i64.wrap (0 - mn (IntKind.i64.wrap (x21 - x10)) x6))]
 else
 some [I (IntKind.i64.wrap (mn (IntKind.i64.wrap (x21 - x10)) x6 - x6))]
 else
 bif decide (x20 = (↑(0 + 1) : Int)) then
 bif x18 == -1 then
 some [I (IntKind.i64.wrap (0 - mn (IntKind.i64.wrap (x21 - x10)) x6))]
 else
 some [I (IntKind.i64.wrap (mn (IntKind.i64.wrap (x21 - x10)) x6 - x6))]
 else
 bif decide (x20 = (↑(0 + 1 + 1) : Int)) then
 bif x19 == -1 then
 some [I (IntKind.i64.wrap (0 - mn (IntKind.i64.wrap (x21 - x10)) x6))]
 else
 some [I (IntKind.i64.wrap (mn (IntKind.i64.wrap (x21 - x10)) x6 - x6))]
 else
 none
 else
 bif decide (x20 = (↑(0 + 1 + 1) : Int)) then
 bif x14 == x19 then
 bif decide (x20 = (↑0 : Int)) then
 (M_backlash_Shift [I x0, I x1, I x2, I x3, I x4, I x5, I x6, I x7, I x8, .view kInts x9, I x17]).bind fun o39 =>
 some [jA o39 0]
 else
 bif decide (x20 = (↑(0 + 1) : Int)) then
 (M_backlash_Shift [I x0, I x1, I x2, I x3, I x4, I x5, I x6, I x7, I x8, .view kInts x9, I x18]).bind fun o40 =>
 some [jA o40 0]
 else
 bif decide (x20 = (↑(0 + 1 + 1) : Int)) then
 (M_backlash_Shift [I x0, I x1, I x2, I x3, I x4, I x5, I x6, I x7, I x8, .view kInts x9, I x19]).bind fun o41 =>
 some [jA o41 0]
 else
 none
 else
 bif decide (x20 = (↑0 : Int)) then
 bif x17 == -1 then
 some [I (IntKind.i64.wrap (0 - mn (IntKind.i64.wrap (x21 - x10)) x6))]
 else
 some [I (IntKind.i64.wrap (mn (IntKind.i64.wrap (x21 - x10)) x6 - x6))]
 else
 bif decide (x20 = (↑(0 + 1) : Int)) then
 bif x18 == -1 then
 some [I (IntKind.i64.wrap (0 - mn (IntKind.i64.wrap (x21 - x10)) x6))]
 else
 some [I (IntKind.i64.wrap (mn (IntKind.i64.wrap (x21 - x10)) x6 - x6))]
 else
 bif decide (x20 = (↑(0 + 1 + 1) : Int)) then
 bif x19 == -1 then
 some [I (IntKind.i64.wrap (0 - mn (IntKind.i64.wrap (x21 - x10)) x6))]
 else
 some [I (IntKind.i64.wrap (mn (IntKind.i64.wrap (x21 - x10)) x6 - x6))]
 else
 none
 else
 none
 else
 bif decide (x20 = (↑(0 + 1) : Int)) then
 bif decide (x20 = (↑0 : Int)) then
 bif x15 == x17 then
 bif decide (x20 = (↑0 : Int)) then
 (M_backlash_Shift [I x0, I x1, I x2, I x3, I x4, I x5, I x6, I x7, I x8, .view kInts x9, I x17]).bind fun o42 =>
 some [jA o42 0]
 else
 bif decide (x20 = (↑(0 + 1) : Int)) then
 (M_backlash_Shift [I x0, I x1, I x2, I x3, I x4, I x5, I x6, I x7, I x8, .view kInts x9, I x18]).bind fun o43 =>
 some [jA o43 0]
 else
 bif decide (x20 = (↑(0 + 1 + 1) : Int)) then
 (M_backlash_Shift [I x0, I x1, I x2, I x3, I x4, I x5, I x6, I x7, I x8, .view kInts x9, I x19]).bind fun o44 =>
 some [jA o44 0]
 else
 none
 else
 bif decide (x20 = (↑0 : Int)) then
 bif x17 == -1 then
 some [I (IntKind.i64.wrap (0 - mn (IntKind.i64.wrap (x21 - x10)) x6))]
 else
 some [I (IntKind.i64.wrap (mn (IntKind.i64.wrap (x21 - x10)) x6 - x6))]
 else
 bif decide (x20 = (↑(0 + 1) : Int)) then
 bif x18 == -1 then
 some [I (IntKind.i64.wrap (0 - mn (IntKind.i64.wrap (x21 - x10)) x6))]
 else
 some [I (IntKind.i64.wrap (mn (IntKind.i64.wrap (x21 - x10)) x6 - x6))]
 else
 bif decide (x20 = (↑(0 + 1 + 1) : Int)) then
 bif x19 == -1 then
 some [I (IntKind.i64.wrap (0 - mn (IntKind.i64.wrap (x21 - x10)) x6))]
 else
 some [I (IntKind.i64.wrap (mn (IntKind.i64.wrap (x21 - x10)) x6 - x6))]
 else
 none
 else
 bif decide (x20 = (↑(0 + 1) : Int)) then
 bif x15 == x18 then
 bif decide (x20 = (↑0 : Int)) then
 (M_backlash_Shift [I x0, I x1, I x2, I x3, I x4, I x5, I x6, I x7, I x8, .view kInts x9, I x17]).bind fun o45 =>
 some [jA o45 0]
 else
 bif decide (x20 = (↑(0 + 1) : Int)) then
 (M_backlash_Shift [I x0, I x1, I x2, I x3, I x4, I x5, I x6, I x7, I x8, .view kInts x9, I x18]).bind fun o46 =>
 some [jA o46 0]
 else
 bif decide (x20 = (↑(0 + 1 + 1) : Int)) then
 (M_backlash_Shift [I x0, I x1, I x2, I x3, I x4, I x5, I x6, I x7, I x8, .view kInts x9, I x19]).bind fun o47 =>
 some [jA o47 0]
 else
 none
 else
 bif decide (x20 = (↑0 : Int)) then
 bif x17 == -1 then
 some [I (IntKind.i64.wrap (0 - mn (IntKind.i64.wrap (x21 - x10)) x6))]
 else
 some [I (IntKind.i64.wrap (mn (IntKind.i64.wrap (x21 - x10)) x6 - x6))]
 else
 bif decide (x20 = (↑(0 + 1) : Int)) then
 bif x18 == -1 then
 some [I (IntKind.i64.wrap (0 - mn (IntKind.i64.wrap (x21 - x10)) x6))]
 else
 some [I (IntKind.i64.wrap (mn (IntKind.i64.wrap (x21 - x10)) x6 - x6))]
 else
 bif decide (x20 = (↑(0 + 1 + 1) : Int)) then
 bif x19 == -1 then
 some [I (IntKind.i64.wrap (0 - mn (IntKind.i64.wrap (x21 - x10)) x6))]
 else
 some [I (IntKind.i64.wrap (mn (IntKind.i64.wrap (x21 - x10)) x6 - x6))]
 else
 none
 else
 bif decide (x20 = (↑(0 + 1 + 1) : Int)) then
 bif x15 == x19 then
 bif decide (x20 = (↑0 : Int)) then
 (M_backlash_Shift [I x0, I x1, I x2, I x3, I x4, I x5, I x6, I x7, I x8, .view kInts x9, I x17]).bind fun o48 =>
 some [jA o48 0]
 else
 bif decide (x20 = (↑(0 + 1) : Int)) then
 (M_backlash_Shift [I x0, I x1, I x2, I x3, I x4, I x5, I x6, I x7, I x8, .view kInts x9, I x18]).bind fun o49 =>
 some [jA o49 0]
 else
 bif decide (x20 = (↑(0 + 1 + 1) : Int)) then
 (M_backlash_Shift [I x0, I x1, I x2, I x3, I x4, I x5, I x6, I x7, I x8, .view kInts x9, I x19]).bind fun o50 =>
 some [jA o50 0]
 else
 none
 else
 bif decide (x20 = (↑0 : Int)) then
 bif x17 == -1 then
 some [I (IntKind.i64.wrap (0 - mn (IntKind.i64.wrap (x21 - x10)) x6))]
 else
 some [I (IntKind.i64.wrap (mn (IntKind.i64.wrap (x21 - x10)) x6 - x6))]
 else
 bif decide (x20 = (↑(0 + 1) : Int)) then
 bif x18 == -1 then
 some [I (IntKind.i64.wrap (0 - mn (IntKind.i64.wrap (x21 - x10)) x6))]
 else
 some [I (IntKind.i64.wrap (mn (IntKind.i64.wrap (x21 - x10)) x6 - x6))]
 else
 bif decide (x20 = (↑(0 + 1 + 1) : Int)) then
 bif x19 == -1 then
 some [I (IntKind.i64.wrap (0 - mn (IntKind.i64.wrap (x21 - x10)) x6))]
 else
 some [I (IntKind.i64.wrap (mn (IntKind.i64.wrap (x21 - x10)) x6 - x6))]
 else
 none
 else
 none
 else
 bif decide (x20 = (↑(0 + 1 + 1) : Int)) then
 bif decide (x20 = (↑0 : Int)) then
 bif x16 == x17 then
 bif decide (x20 = (↑0 : Int)) then
 (M_backlash_Shift [I x0, I x1, I x2, I x3, I x4, I x5, I x6, I x7, I x8, .view kInts x9, I x17]).bind fun o51 =>
 some [jA o51 0]
 else
 bif decide (x20 = (↑(0 + 1) : Int)) then
 (M_backlash_Shift [I x0, I x1, I x2, I x3, I x4, I x5, I x6, I x7, I x8, .view kInts x9, I x18]).bind fun o52 =>
 some [jA o52 0]
 else
 bif decide (x20 = (↑(0 + 1 + 1) : Int)) then
 (M_backlash_Shift [I x0, I x1, I x2, I x3, I x4, I x5, I x6, I x7, I x8, .view kInts x9, I x19]).bind fun o53 =>
 some [jA o53 0]
 else
 none
 else
 bif decide (x20 = (↑0 : Int)) then
 bif x17 == -1 then
 some [I (IntKind.i64.wrap (0 - mn (IntKind.i64.wrap (x21 - x10)) x6))]
 else
 some [I (IntKind.i64.wrap (mn (IntKind.i64.wrap (x21 - x10)) x6 - x6))]
 else
 bif decide (x20 = (↑(0 + 1) : Int)) then
 bif x18 == -1 then
 some [I (IntKind.i64.wrap (0 - mn (IntKind.i64.wrap (x21 - x10)) x6))]
 else
 some [I (IntKind.i64.wrap (mn (IntKind.i64.wrap (x21 - x10)) x6 - x6))]
 else
 bif decide (x20 = (↑(0 + 1 + 1) : Int)) then
 bif x19 == -1 then
 some [I (IntKind.i64.wrap (0 - mn (IntKind.i64.wrap (x21 - x10)) x6))]
 else
 some [I (IntKind.i64.wrap (mn (IntKind.i64.wrap (x21 - x10)) x6 - x6))]
 else
 none
 else
 bif decide (x20 = (↑(0 + 1) : Int)) then
 bif x16 == x18 then
 bif decide (x20 = (↑0 : Int)) then
 (M_backlash_Shift [I x0, I x1, I x2, I x3, I x4, I x5, I x6, I x7, I x8, .view kInts x9, I x17]).bind fun o54 =>
 some [jA o54 0]
 else
 bif decide (x20 = (↑(0 + 1) : Int)) then
 (M_backlash_Shift [I x0, I x1, I x2, I x3, I x4, I x5, I x6, I x7, I x8, .view kInts x9, I x18]).bind fun o55 =>
 some [jA o55 0]
 else
 bif decide (x20 = (↑(0 + 1 + 1) : Int)) then
 (M_backlash_Shift [I x0, I x1, I x2, I x3, I x4, I x5, I x6, I x7, I x8, .view kInts x9, I x19]).bind fun o56 =>
 some [jA o56 0]
 else
 none
 else
 bif decide (x20 = (↑0 : Int)) then
 bif x17 == -1 then
 some [I (IntKind.i64.wrap (0 - mn (IntKind.i64.wrap (x21 - x10)) x6))]
 else
 some [I (IntKind.i64.wrap (mn (IntKind.i64.wrap (x21 - x10)) x6 - x6))]
 else
 bif decide (x20 = (↑(0 + 1) : Int)) then
 bif x18 == -1 then
 some [I (IntKind.i64.wrap (0 - mn (IntKind.i64.wrap (x21 - x10)) x6))]
 else
 some [I (IntKind.i64.wrap (mn (IntKind.i64.wrap (x21 - x10)) x6 - x6))]
 else
 bif decide (x20 = (↑(0 + 1 + 1) : Int)) then
 bif x19 == -1 then
 some [I (IntKind.i64.wrap (0 - mn (IntKind.i64.wrap (x21 - x10)) x6))]
 else
 some [I (IntKind.i64.wrap (mn (IntKind.i64.wrap (x21 - x10)) x6 - x6))]
 else
 none
 else
 bif decide (x20 = (↑(0 + 1 + 1) : Int)) then
 bif x16 == x19 then
 bif decide (x20 = (↑0 : Int)) then
 (M_backlash_Shift [I x0, I x1, I x2, I x3, I x4, I x5, I x6, I x7, I x8, .view kInts x9, I x17]).bind fun o57 =>
 some [jA o57 0]
 else
 bif decide (x20 = (↑(0 + 1) : Int)) then
 (M_backlash_Shift [I x0, I x1, I x2, I x3, I x4, I x5, I x6, I x7, I x8, .view kInts x9, I x18]).bind fun o58 =>
 some [jA o58 0]
 else
 bif decide (x20 = (↑(0 + 1 + 1) : Int)) then
 (M_backlash_Shift [I x0, I x1, I x2, I x3, I x4, I x5, I x6, I x7, I x8, .view kInts x9, I x19]).bind fun o59 =>
 some [jA o59 0]
 else
 none
 else
 bif decide (x20 = (↑0 : Int)) then
 bif x17 == -1 then
 some [I (IntKind.i64.wrap (0 - mn (IntKind.i64.wrap (x21 - x10)) x6))]
 else
 some [I (IntKind.i64.wrap (mn (IntKind.i64.wrap (x21 - x10)) x6 - x6))]
 else
 bif decide (x20 = (↑(0 + 1) : Int)) then
 bif x18 == -1 then
 some [I (IntKind.i64.wrap (0 - mn (IntKind.i64.wrap (x21 - x10)) x6))]
 else
 some [I (IntKind.i64.wrap (mn (IntKind.i64.wrap (x21 - x10)) x6 - x6))]
 else
 bif decide (x20 = (↑(0 + 1 + 1) : Int)) then
 bif x19 == -1 then
 some [I (IntKind.i64.wrap (0 - mn (IntKind.i64.wrap (x21 - x10)) x6))]
 else
 some [I (IntKind.i64.wrap (mn (IntKind.i64.wrap (x21 - x10)) x6 - x6))]
 else
 none
 else
 none
 else
 none := by kernel_rfl
def m_track_shift := mf_track_shift m_backlash_Shift 
theorem sp_track_shift : SpecOK Try.prog (C_track_shift_0 m_backlash_Shift) := specOK_of rfl ⟨r_backlash_Shift, trivial⟩
theorem r_track_shift : RowOK Try.prog (91, spOf sig_track_shift osig_track_shift m_track_shift) := row_of (C := (C_track_shift_0 m_backlash_Shift)) (L := 64) (by kernel_rfl) (FnOK.bare rfl rfl rfl) sp_track_shift eqOk mixOk (by kernel_rfl) (by kernel_rfl)
def sig_axis_Steps : Sk := { tmps := [TS.v true [ci, ci, ci, ci, ci, ci, ci, ci, ci, CS.sl kInts], tf [ci]], boxes := [], rows := [] }
def osig_axis_Steps : Sk := { tmps := [tf [ci]], boxes := [], rows := [] }
def C_axis_Steps_0 : Cfg := { spec := lookS [], eqOk := eqAll, ownOff := ownOff }
def mf_axis_Steps : Fn := modelF Try.prog C_axis_Steps_0 64 132 sig_axis_Steps osig_axis_Steps
theorem mf_axis_Steps_eq (x0 x1 x2 x3 x4 x5 x6 x7 x8 : Int) (x9 : Rw) (x10 : Int) : mf_axis_Steps [I x0, I x1, I x2, I x3, I x4, I x5, I x6, I x7, I x8, .view kInts x9, I x10] =
 bif decide (x0 <= 0) then
 some [I 0]
 else
 bif decide (IntKind.i64.wrap (2 * x0) <= 0) then
 some [I 0]
 else
 bif decide (IntKind.i64.wrap (2 * x0) = 0) then
 none
 else
 bif decide (IntKind.i64.wrap (2 * x0) = 0) then
 none
 else
 bif decide ((IntKind.i64.wrap (IntKind.i64.wrap (2 * x10) + x0)).tmod (IntKind.i64.wrap (2 * x0)) < 0) then
 some [I (IntKind.i64.wrap (IntKind.i64.wrap ((IntKind.i64.wrap (IntKind.i64.wrap (2 * x10) + x0)).tdiv (IntKind.i64.wrap (2 * x0))) - 1))]
 else
 some [I (IntKind.i64.wrap ((IntKind.i64.wrap (IntKind.i64.wrap (2 * x10) + x0)).tdiv (IntKind.i64.wrap (2 * x0))))] := by kernel_rfl
def m_axis_Steps := mf_axis_Steps 
theorem sp_axis_Steps : SpecOK Try.prog (C_axis_Steps_0 ) := specOK_of rfl trivial
theorem r_axis_Steps : RowOK Try.prog (132, spOf sig_axis_Steps osig_axis_Steps m_axis_Steps) := row_of (C := C_axis_Steps_0) (L := 64) (by kernel_rfl) (FnOK.bare rfl rfl rfl) sp_axis_Steps eqOk mixOk (by kernel_rfl) (by kernel_rfl)
def sig_wide_signed : Sk := { tmps := [tf [CS.int .u64], tf [CS.bool]], boxes := [], rows := [] }
def osig_wide_signed : Sk := { tmps := [TS.tup [(false, [ci]), (false, [CS.bool])]], boxes := [], rows := [] }
def C_wide_signed_0 : Cfg := { spec := lookS [], eqOk := eqAll, ownOff := ownOff }
def mf_wide_signed : Fn := modelF Try.prog C_wide_signed_0 64 146 sig_wide_signed osig_wide_signed
theorem mf_wide_signed_eq (x0 : Int) (x1 : Bool) : mf_wide_signed [U x0, B x1] =
 bif x1 then
 bif decide (x0 <= 9223372036854775808) then
 some [I (IntKind.i64.wrap (IntKind.u64.wrap (0 - x0))), B true]
 else
 bif !x1 then
 bif decide (x0 < 9223372036854775808) then
 some [I (IntKind.i64.wrap x0), B true]
 else
 some [I 0, B false]
 else
 some [I 0, B false]
 else
 bif !x1 then
 bif decide (x0 < 9223372036854775808) then
 some [I (IntKind.i64.wrap x0), B true]
 else
 some [I 0, B false]
 else
 some [I 0, B false] := by kernel_rfl
def m_wide_signed := mf_wide_signed 
theorem sp_wide_signed : SpecOK Try.prog (C_wide_signed_0 ) := specOK_of rfl trivial
theorem r_wide_signed : RowOK Try.prog (146, spOf sig_wide_signed osig_wide_signed m_wide_signed) := row_of (C := C_wide_signed_0) (L := 64) (by kernel_rfl) (FnOK.bare rfl rfl rfl) sp_wide_signed eqOk mixOk (by kernel_rfl) (by kernel_rfl)
def sig_wide_grows : Sk := { tmps := [tf [ci], tf [ci], tf [CS.bool], tf [CS.bool]], boxes := [], rows := [] }
def osig_wide_grows : Sk := { tmps := [tf [CS.bool]], boxes := [], rows := [] }
def C_wide_grows_0 : Cfg := { spec := lookS [], eqOk := eqAll, ownOff := ownOff }
def mf_wide_grows : Fn := modelF Try.prog C_wide_grows_0 64 145 sig_wide_grows osig_wide_grows
theorem mf_wide_grows_eq (x0 x1 : Int) (x2 x3 : Bool) : mf_wide_grows [I x0, I x1, B x2, B x3] =
 bif x0 == 0 then
 bif x2 then
 some [B x3]
 else
 some [B false]
 else
 bif x0 == 1 then
 bif x2 then
 some [B !x3]
 else
 some [B false]
 else
 bif decide (x1 > 0) then
 some [B true]
 else
 bif x1 == 0 then
 some [B !x3]
 else
 some [B false] := by kernel_rfl
def m_wide_grows := mf_wide_grows 
theorem sp_wide_grows : SpecOK Try.prog (C_wide_grows_0 ) := specOK_of rfl trivial
theorem r_wide_grows : RowOK Try.prog (145, spOf sig_wide_grows osig_wide_grows m_wide_grows) := row_of (C := C_wide_grows_0) (L := 64) (by kernel_rfl) (FnOK.bare rfl rfl rfl) sp_wide_grows eqOk mixOk (by kernel_rfl) (by kernel_rfl)
def sig_wide_sign : Sk := { tmps := [tf [ci], tf [ci]], boxes := [], rows := [] }
def osig_wide_sign : Sk := { tmps := [tf [ci]], boxes := [], rows := [] }
def C_wide_sign_0 : Cfg := { spec := lookS [], eqOk := eqAll, ownOff := ownOff }
def mf_wide_sign : Fn := modelF Try.prog C_wide_sign_0 64 104 sig_wide_sign osig_wide_sign
theorem mf_wide_sign_eq (x0 x1 : Int) : mf_wide_sign [I x0, I x1] =
 bif x0 == 0 then
 some [I 0]
 else
 bif x1 == 0 then
 some [I 0]
 else
 bif decide (x0 < 0) == decide (x1 < 0) then
 some [I 1]
 else
 some [I (-1)] := by kernel_rfl
def m_wide_sign := mf_wide_sign 
theorem sp_wide_sign : SpecOK Try.prog (C_wide_sign_0 ) := specOK_of rfl trivial
theorem r_wide_sign : RowOK Try.prog (104, spOf sig_wide_sign osig_wide_sign m_wide_sign) := row_of (C := C_wide_sign_0) (L := 64) (by kernel_rfl) (FnOK.bare rfl rfl rfl) sp_wide_sign eqOk mixOk (by kernel_rfl) (by kernel_rfl)
def sig_bits_Div64 : Sk := { tmps := [tf [CS.int .u64], tf [CS.int .u64], tf [CS.int .u64]], boxes := [], rows := [] }
def osig_bits_Div64 : Sk := { tmps := [TS.tup [(false, [CS.int .u64]), (false, [CS.int .u64])]], boxes := [], rows := [] }
def C_bits_Div64_0 (M_bits_LeadingZeros64 : Fn) : Cfg := { spec := lookS [(164, spOf sig_bits_LeadingZeros64 osig_bits_LeadingZeros64 M_bits_LeadingZeros64)], eqOk := eqAll, ownOff := ownOff }
def sk_bits_Div64_17 : Sk := { tmps := [td, td, tf [CS.int .u64], td, td, td, td, td, tf [CS.int .u64], tf [CS.int .u64], tf [CS.int .u64], tf [CS.int .u64], td, tf [CS.int .u64], tf [CS.int .u64], tf [CS.int .u64], tf [CS.int .u64]] ++ dd 118, boxes := [], rows := [] }
def ex_bits_Div64_17 : List (Ex × Sk) := [(Ex.exit 0, { tmps := [td, td, tf [CS.int .u64], td, td, td, td, td, tf [CS.int .u64], tf [CS.int .u64], tf [CS.int .u64], tf [CS.int .u64], td, tf [CS.int .u64], tf [CS.int .u64], tf [CS.int .u64]] ++ dd 119, boxes := [], rows := [] })]
def st_bits_Div64_17 (M_bits_LeadingZeros64 : Fn) : Lp := stepL Try.prog (C_bits_Div64_0 M_bits_LeadingZeros64) 64 17 (bodyOf Try.prog 144 17) sk_bits_Div64_17 ex_bits_Div64_17
def C_bits_Div64_1 (M_bits_LeadingZeros64 : Fn) (N17 : Lp) : Cfg := (C_bits_Div64_0 M_bits_LeadingZeros64).loop 17 sk_bits_Div64_17 ex_bits_Div64_17 N17
def sk_bits_Div64_24 : Sk := { tmps := [td, td, tf [CS.int .u64], td, td, td, td, td, tf [CS.int .u64], tf [CS.int .u64], tf [CS.int .u64], td, td, td, tf [CS.int .u64], tf [CS.int .u64], tf [CS.int .u64], tf [CS.int .u64], tf [CS.int .u64]] ++ dd 116, boxes := [], rows := [] }
def ex_bits_Div64_24 : List (Ex × Sk) := [(Ex.exit 2, { tmps := [td, td, tf [CS.int .u64], td, td, td, td, td, tf [CS.int .u64], td, td, td, td, td, tf [CS.int .u64], tf [CS.int .u64], td, tf [CS.int .u64], tf [CS.int .u64]] ++ dd 116, boxes := [], rows := [] })]
def st_bits_Div64_24 (M_bits_LeadingZeros64 : Fn) (N17 : Lp) : Lp := stepL Try.prog (C_bits_Div64_1 M_bits_LeadingZeros64 N17) 64 24 (bodyOf Try.prog 144 24) sk_bits_Div64_24 ex_bits_Div64_24
def C_bits_Div64_2 (M_bits_LeadingZeros64 : Fn) (N17 N24 : Lp) : Cfg := (C_bits_Div64_1 M_bits_LeadingZeros64 N17).loop 24 sk_bits_Div64_24 ex_bits_Div64_24 N24
def mf_bits_Div64 (M_bits_LeadingZeros64 : Fn) (N17 N24 : Lp) : Fn := modelF Try.prog (C_bits_Div64_2 M_bits_LeadingZeros64 N17 N24) 64 144 sig_bits_Div64 osig_bits_Div64
theorem mf_bits_Div64_eq (M_bits_LeadingZeros64 : Fn) (N17 N24 : Lp) (x0 x1 x2 : Int) : mf_bits_Div64 M_bits_LeadingZeros64 N17 N24 [U x0, U x1, U x2] =
 bif x2 == 0 then
 none
 else
 bif decide (x2 <= x0) then
 none
 else
 bif x0 == 0 then
 bif decide (x2 = 0) then
 none
 else
 bif decide (x2 = 0) then
 none
 else
 some [U (IntKind.u64.wrap (x1.tdiv x2)), U (x1.tmod x2)]
 else
 (M_bits_LeadingZeros64 [U x2]).bind fun o6 =>
 bif decide (IntKind.u64.wrap (gA o6 0) < 0) then
 none
 else
 bif decide (IntKind.u64.wrap (gA o6 0) < 0) then
 none
 else
 bif decide (IntKind.u64.wrap (64 - IntKind.u64.wrap (gA o6 0)) < 0) then
 none
 else
 bif decide (IntKind.u64.wrap (gA o6 0) < 0) then
 none
 else
 bif decide ((IntKind.u64.wrap (x2 * 2 ^ min (IntKind.u64.wrap (gA o6 0)).toNat IntKind.u64.bits)).fdiv (2 ^ min (Int.toNat 32) IntKind.u64.bits) = 0) then
 none
 else
 (N17 [U (IntKind.u64.wrap (x2 * 2 ^ min (IntKind.u64.wrap (gA o6 0)).toNat IntKind.u64.bits)), U (IntKind.u64.wrap (gA o6 0)), U ((IntKind.u64.wrap (x2 * 2 ^ min (IntKind.u64.wrap (gA o6 0)).toNat IntKind.u64.bits)).fdiv (2 ^ min (Int.toNat 32) IntKind.u64.bits)), U (IntKind.u64.wrap (↑(BitVec.ofInt IntKind.u64.bits (IntKind.u64.wrap (x2 * 2 ^ min (IntKind.u64.wrap (gA o6 0)).toNat IntKind.u64.bits)) &&& BitVec.ofInt IntKind.u64.bits 4294967295).toNat : Int)), U (IntKind.u64.wrap (↑(BitVec.ofInt IntKind.u64.bits (IntKind.u64.wrap (x0 * 2 ^ min (IntKind.u64.wrap (gA o6 0)).toNat IntKind.u64.bits)) ||| BitVec.ofInt IntKind.u64.bits (x1.fdiv (2 ^ min (IntKind.u64.wrap (64 - IntKind.u64.wrap (gA o6 0))).toNat IntKind.u64.bits))).toNat : Int)), U ((IntKind.u64.wrap (x1 * 2 ^ min (IntKind.u64.wrap (gA o6 0)).toNat IntKind.u64.bits)).fdiv (2 ^ min (Int.toNat 32) IntKind.u64.bits)), U (IntKind.u64.wrap (↑(BitVec.ofInt IntKind.u64.bits (IntKind.u64.wrap (x1 * 2 ^ min (IntKind.u64.wrap (gA o6 0)).toNat IntKind.u64.bits)) &&& BitVec.ofInt IntKind.u64.bits 4294967295).toNat : Int)), U (IntKind.u64.wrap ((IntKind.u64.wrap (↑(BitVec.ofInt IntKind.u64.bits (IntKind.u64.wrap (x0 * 2 ^ min (IntKind.u64.wrap (gA o6 0)).toNat IntKind.u64.bits)) ||| BitVec.ofInt IntKind.u64.bits (x1.fdiv (2 ^ min (IntKind.u64.wrap (64 - IntKind.u64.wrap (gA o6 0))).toNat IntKind.u64.bits))).toNat : Int)).tdiv ((IntKind.u64.wrap (x2 * 2 ^ min (IntKind.u64.wrap (gA o6 0)).toNat IntKind.u64.bits)).fdiv (2 ^ min (Int.toNat 32) IntKind.u64.bits)))), U (IntKind.u64.wrap (IntKind.u64.wrap (↑(BitVec.ofInt IntKind.u64.bits (IntKind.u64.wrap (x0 * 2 ^ min (IntKind.u64.wrap (gA o6 0)).toNat IntKind.u64.bits)) ||| BitVec.ofInt IntKind.u64.bits (x1.fdiv (2 ^ min (IntKind.u64.wrap (64 - IntKind.u64.wrap (gA o6 0))).toNat IntKind.u64.bits))).toNat : Int) - IntKind.u64.wrap (IntKind.u64.wrap ((IntKind.u64.wrap (↑(BitVec.ofInt IntKind.u64.bits (IntKind.u64.wrap (x0 * 2 ^ min (IntKind.u64.wrap (gA o6 0)).toNat IntKind.u64.bits)) ||| BitVec.ofInt IntKind.u64.bits (x1.fdiv (2 ^ min (IntKind.u64.wrap (64 - IntKind.u64.wrap (gA o6 0))).toNat IntKind.u64.bits))).toNat : Int)).tdiv ((IntKind.u64.wrap (x2 * 2 ^ min (IntKind.u64.wrap (gA o6 0)).toNat IntKind.u64.bits)).fdiv (2 ^ min (Int.toNat 32) IntKind.u64.bits))) * (IntKind.u64.wrap (x2 * 2 ^ min (IntKind.u64.wrap (gA o6 0)).toNat IntKind.u64.bits)).fdiv (2 ^ min (Int.toNat 32) IntKind.u64.bits))))]).bind fun o7 =>
 bif o7.1.beq 1 then
 bif decide (gA o7.2 2 = 0) then
 none
 else
 (N24 [U (gA o7.2 0), U (gA o7.2 1), U (gA o7.2 2), U (gA o7.2 3), U (gA o7.2 6), U (gA o7.2 7), U (IntKind.u64.wrap (IntKind.u64.wrap (IntKind.u64.wrap (IntKind.u64.wrap (gA o7.2 4 * 4294967296) + gA o7.2 5) - IntKind.u64.wrap (gA o7.2 7 * gA o7.2 0)) - IntKind.u64.wrap (IntKind.u64.wrap ((IntKind.u64.wrap (IntKind.u64.wrap (IntKind.u64.wrap (gA o7.2 4 * 4294967296) + gA o7.2 5) - IntKind.u64.wrap (gA o7.2 7 * gA o7.2 0))).tdiv (gA o7.2 2)) * gA o7.2 2))), U (IntKind.u64.wrap (IntKind.u64.wrap (IntKind.u64.wrap (gA o7.2 4 * 4294967296) + gA o7.2 5) - IntKind.u64.wrap (gA o7.2 7 * gA o7.2 0))), U (IntKind.u64.wrap ((IntKind.u64.wrap (IntKind.u64.wrap (IntKind.u64.wrap (gA o7.2 4 * 4294967296) + gA o7.2 5) - IntKind.u64.wrap (gA o7.2 7 * gA o7.2 0))).tdiv (gA o7.2 2)))]).bind fun o8 =>
 bif o8.1.beq 1 then
 bif decide (gA o8.2 1 < 0) then
 none
 else
 some [U (IntKind.u64.wrap (IntKind.u64.wrap (gA o8.2 3 * 4294967296) + gA o8.2 5)), U ((IntKind.u64.wrap (IntKind.u64.wrap (IntKind.u64.wrap (gA o8.2 4 * 4294967296) + gA o8.2 2) - IntKind.u64.wrap (gA o8.2 5 * gA o8.2 0))).fdiv (2 ^ min (gA o8.2 1).toNat IntKind.u64.bits))]
 else
 none
 else
 none := by kernel_rfl
def l_bits_Div64_17 := loopC (st_bits_Div64_17 m_bits_LeadingZeros64 )
def l_bits_Div64_24 := loopC (st_bits_Div64_24 m_bits_LeadingZeros64 l_bits_Div64_17)
def m_bits_Div64 := mf_bits_Div64 m_bits_LeadingZeros64 l_bits_Div64_17 l_bits_Div64_24
theorem sp_bits_Div64 : SpecOK Try.prog (C_bits_Div64_0 m_bits_LeadingZeros64) := specOK_of rfl ⟨r_bits_LeadingZeros64, trivial⟩
theorem r_bits_Div64 : RowOK Try.prog (144, spOf sig_bits_Div64 osig_bits_Div64 m_bits_Div64) := row_of (C := (C_bits_Div64_2 m_bits_LeadingZeros64 l_bits_Div64_17 l_bits_Div64_24)) (L := 64) (by kernel_rfl) (((FnOK.bare rfl rfl rfl).loop sp_bits_Div64 eqOk mixOk (by kernel_rfl) (by kernel_rfl)).loop sp_bits_Div64 eqOk mixOk (by kernel_rfl) (by kernel_rfl)) sp_bits_Div64 eqOk mixOk (by kernel_rfl) (by kernel_rfl)
def sig_wide_product : Sk := { tmps := [tf [CS.int .u64], tf [CS.int .u64]], boxes := [], rows := [] }
def osig_wide_product : Sk := { tmps := [TS.v true [CS.int .u64, CS.int .u64]], boxes := [], rows := [] }
def C_wide_product_0 (M_bits_Mul64 : Fn) : Cfg := { spec := lookS [(147, spOf sig_bits_Mul64 osig_bits_Mul64 M_bits_Mul64)], eqOk := eqAll, ownOff := ownOff }
def mf_wide_product (M_bits_Mul64 : Fn) : Fn := modelF Try.prog (C_wide_product_0 M_bits_Mul64) 64 106 sig_wide_product osig_wide_product
theorem mf_wide_product_eq (M_bits_Mul64 : Fn) (x0 x1 : Int) : mf_wide_product M_bits_Mul64 [U x0, U x1] =
 (M_bits_Mul64 [U x0, U x1]).bind fun o1 =>
 some [U (gA o1 0), U (gA o1 1)] := by kernel_rfl
def m_wide_product := mf_wide_product m_bits_Mul64 
theorem sp_wide_product : SpecOK Try.prog (C_wide_product_0 m_bits_Mul64) := specOK_of rfl ⟨r_bits_Mul64, trivial⟩
theorem r_wide_product : RowOK Try.prog (106, spOf sig_wide_product osig_wide_product m_wide_product) := row_of (C := (C_wide_product_0 m_bits_Mul64)) (L := 64) (by kernel_rfl) (FnOK.bare rfl rfl rfl) sp_wide_product eqOk mixOk (by kernel_rfl) (by kernel_rfl)
def sig_wide_size : Sk := { tmps := [tf [ci]], boxes := [], rows := [] }
def osig_wide_size : Sk := { tmps := [tf [CS.int .u64]], boxes := [], rows := [] }
def C_wide_size_0 : Cfg := { spec := lookS [], eqOk := eqAll, ownOff := ownOff }
def mf_wide_size : Fn := modelF Try.prog C_wide_size_0 64 107 sig_wide_size osig_wide_size
theorem mf_wide_size_eq (x0 : Int) : mf_wide_size [I x0] =
 bif decide (x0 < 0) then
 some [U (IntKind.u64.wrap (IntKind.u64.wrap (IntKind.i64.wrap (0 - IntKind.i64.wrap (x0 + 1))) + 1))]
 else
 some [U (IntKind.u64.wrap x0)] := by kernel_rfl
def m_wide_size := mf_wide_size 
theorem sp_wide_size : SpecOK Try.prog (C_wide_size_0 ) := specOK_of rfl trivial
theorem r_wide_size : RowOK Try.prog (107, spOf sig_wide_size osig_wide_size m_wide_size) := row_of (C := C_wide_size_0) (L := 64) (by kernel_rfl) (FnOK.bare rfl rfl rfl) sp_wide_size eqOk mixOk (by kernel_rfl) (by kernel_rfl)
def sig_wide_known : Sk := { tmps := [tf [ci]], boxes := [], rows := [] }
def osig_wide_known : Sk := { tmps := [tf [CS.bool]], boxes := [], rows := [] }
def C_wide_known_0 : Cfg := { spec := lookS [], eqOk := eqAll, ownOff := ownOff }
def mf_wide_known : Fn := modelF Try.prog C_wide_known_0 64 143 sig_wide_known osig_wide_known
theorem mf_wide_known_eq (x0 : Int) : mf_wide_known [I x0] =
 bif x0 == 0 then
 some [B true]
 else
 bif x0 == 1 then
 some [B true]
 else
 some [B (x0 == 2)] := by kernel_rfl
def m_wide_known := mf_wide_known 
theorem sp_wide_known : SpecOK Try.prog (C_wide_known_0 ) := specOK_of rfl trivial
theorem r_wide_known : RowOK Try.prog (143, spOf sig_wide_known osig_wide_known m_wide_known) := row_of (C := C_wide_known_0) (L := 64) (by kernel_rfl) (FnOK.bare rfl rfl rfl) sp_wide_known eqOk mixOk (by kernel_rfl) (by kernel_rfl)
def sig_wide_MulDiv : Sk := { tmps := [tf [ci], tf [ci], tf [ci], tf [ci]], boxes := [], rows := [] }
def osig_wide_MulDiv : Sk := { tmps := [TS.tup [(false, [ci]), (false, [CS.bool])]], boxes := [], rows := [] }
def C_wide_MulDiv_0 (M_wide_signed M_wide_grows M_wide_sign M_bits_Div64 M_wide_product M_wide_size M_wide_known : Fn) : Cfg := { spec := lookS [(146, spOf sig_wide_signed osig_wide_signed M_wide_signed), (145, spOf sig_wide_grows osig_wide_grows M_wide_grows), (104, spOf sig_wide_sign osig_wide_sign M_wide_sign), (144, spOf sig_bits_Div64 osig_bits_Div64 M_bits_Div64), (106, spOf sig_wide_product osig_wide_product M_wide_product), (107, spOf sig_wide_size osig_wide_size M_wide_size), (143, spOf sig_wide_known osig_wide_known M_wide_known)], eqOk := eqAll, ownOff := ownOff }
def mf_wide_MulDiv (M_wide_signed M_wide_grows M_wide_sign M_bits_Div64 M_wide_product M_wide_size M_wide_known : Fn) : Fn := modelF Try.prog (C_wide_MulDiv_0 M_wide_signed M_wide_grows M_wide_sign M_bits_Div64 M_wide_product M_wide_size M_wide_known) 64 98 sig_wide_MulDiv osig_wide_MulDiv
theorem mf_wide_MulDiv_eq (M_wide_signed M_wide_grows M_wide_sign M_bits_Div64 M_wide_product M_wide_size M_wide_known : Fn) (x0 x1 x2 x3 : Int) : mf_wide_MulDiv M_wide_signed M_wide_grows M_wide_sign M_bits_Div64 M_wide_product M_wide_size M_wide_known [I x0, I x1, I x2, I x3] =
 bif x2 == 0 then
 some [I 0, B false]
 else
 (M_wide_known [I x3]).bind fun o26 =>
 bif !bA o26 0 then
 some [I 0, B false]
 else
 (M_wide_size [I x0]).bind fun o27 =>
 (M_wide_size [I x1]).bind fun o28 =>
 (M_wide_product [U (gA o27 0), U (gA o28 0)]).bind fun o29 =>
 (M_wide_size [I x2]).bind fun o30 =>
 bif decide (gA o29 0 >= gA o30 0) then
 some [I 0, B false]
 else
 (M_bits_Div64 [U (gA o29 0), U (gA o29 1), U (gA o30 0)]).bind fun o31 =>
 (M_wide_sign [I x0, I x1]).bind fun o32 =>
 bif !decide (gA o32 0 < 0) == decide (x2 < 0) then
 (M_wide_sign [I x0, I x1]).bind fun o33 =>
 bif decide (gA o31 1 > IntKind.u64.wrap (gA o30 0 - gA o31 1)) then
 (M_wide_grows [I x3, I 1, B (decide (gA o31 1 > 0)), B (gA o33 0 != 0)]).bind fun o34 =>
 bif bA o34 0 then
 bif IntKind.u64.wrap (gA o31 0 + 1) == 0 then
 some [I 0, B false]
 else
 (M_wide_signed [U (IntKind.u64.wrap (gA o31 0 + 1)), B (gA o33 0 != 0)]).bind fun o35 =>
 some [jA o35 0, B (bA o35 1)]
 else
 (M_wide_signed [U (gA o31 0), B (gA o33 0 != 0)]).bind fun o36 =>
 some [jA o36 0, B (bA o36 1)]
 else
 bif decide (gA o31 1 < IntKind.u64.wrap (gA o30 0 - gA o31 1)) then
 (M_wide_grows [I x3, I (-1), B (decide (gA o31 1 > 0)), B (gA o33 0 != 0)]).bind fun o37 =>
 bif bA o37 0 then
 bif IntKind.u64.wrap (gA o31 0 + 1) == 0 then
 some [I 0, B false]
 else
 (M_wide_signed [U (IntKind.u64.wrap (gA o31 0 + 1)), B (gA o33 0 != 0)]).bind fun o38 =>
 some [jA o38 0, B (bA o38 1)]
 else
 (M_wide_signed [U (gA o31 0), B (gA o33 0 != 0)]).bind fun o39 =>
 some [jA o39 0, B (bA o39 1)]
 else
 (M_wide_grows [I x3, I 0, B (decide (gA o31 1 > 0)), B (gA o33 0 != 0)]).bind fun o40 =>
 bif bA o40 0 then
 bif IntKind.u64.wrap (gA o31 0 + 1) == 0 then
 some [I 0, B false]
 else
 (M_wide_signed [U (IntKind.u64.wrap (gA o31 0 + 1)), B (gA o33 0 != 0)]).bind fun o41 =>
 some [jA o41 0, B (bA o41 1)]
 else
 (M_wide_signed [U (gA o31 0), B (gA o33 0 != 0)]).bind fun o42 =>
 some [jA o42 0, B (bA o42 1)]
 else
 bif decide (gA o31 1 > IntKind.u64.wrap (gA o30 0 - gA o31 1)) then
 (M_wide_grows [I x3, I 1, B (decide (gA o31 1 > 0)), B false]).bind fun o43 =>
 bif bA o43 0 then
 bif IntKind.u64.wrap (gA o31 0 + 1) == 0 then
 some [I 0, B false]
 else
 (M_wide_signed [U (IntKind.u64.wrap (gA o31 0 + 1)), B false]).bind fun o44 =>
 some [jA o44 0, B (bA o44 1)]
 else
 (M_wide_signed [U (gA o31 0), B false]).bind fun o45 =>
 some [jA o45 0, B (bA o45 1)]
 else
 bif decide (gA o31 1 < IntKind.u64.wrap (gA o30 0 - gA o31 1)) then
 (M_wide_grows [I x3, I (-1), B (decide (gA o31 1 > 0)), B false]).bind fun o46 =>
 bif bA o46 0 then
 bif IntKind.u64.wrap (gA o31 0 + 1) == 0 then
 some [I 0, B false]
 else
 (M_wide_signed [U (IntKind.u64.wrap (gA o31 0 + 1)), B false]).bind fun o47 =>
 some [jA o47 0, B (bA o47 1)]
 else
 (M_wide_signed [U (gA o31 0), B false]).bind fun o48 =>
 some [jA o48 0, B (bA o48 1)]
 else
 (M_wide_grows [I x3, I 0, B (decide (gA o31 1 > 0)), B false]).bind fun o49 =>
 bif bA o49 0 then
 bif IntKind.u64.wrap (gA o31 0 + 1) == 0 then
 some [I 0, B false]
 else
 (M_wide_signed [U (IntKind.u64.wrap (gA o31 0 + 1)), B false]).bind fun o50 =>
 some [jA o50 0, B (bA o50 1)]
 else
 (M_wide_signed [U (gA o31 0), B false]).bind fun o51 =>
 some [jA o51 0, B (bA o51 1)] := by kernel_rfl
def m_wide_MulDiv := mf_wide_MulDiv m_wide_signed m_wide_grows m_wide_sign m_bits_Div64 m_wide_product m_wide_size m_wide_known 
theorem sp_wide_MulDiv : SpecOK Try.prog (C_wide_MulDiv_0 m_wide_signed m_wide_grows m_wide_sign m_bits_Div64 m_wide_product m_wide_size m_wide_known) := specOK_of rfl ⟨r_wide_signed, r_wide_grows, r_wide_sign, r_bits_Div64, r_wide_product, r_wide_size, r_wide_known, trivial⟩
theorem r_wide_MulDiv : RowOK Try.prog (98, spOf sig_wide_MulDiv osig_wide_MulDiv m_wide_MulDiv) := row_of (C := (C_wide_MulDiv_0 m_wide_signed m_wide_grows m_wide_sign m_bits_Div64 m_wide_product m_wide_size m_wide_known)) (L := 64) (by kernel_rfl) (FnOK.bare rfl rfl rfl) sp_wide_MulDiv eqOk mixOk (by kernel_rfl) (by kernel_rfl)
def sig_pitch_Correct : Sk := { tmps := [TS.v true [ci, ci, ci, ci, ci, ci, ci, ci, ci, CS.sl kInts], tf [ci]], boxes := [], rows := [] }
def osig_pitch_Correct : Sk := { tmps := [tf [ci]], boxes := [], rows := [] }
def C_pitch_Correct_0 (M_wide_MulDiv : Fn) : Cfg := { spec := lookS [(98, spOf sig_wide_MulDiv osig_wide_MulDiv M_wide_MulDiv)], eqOk := eqAll, ownOff := ownOff }
def mf_pitch_Correct (M_wide_MulDiv : Fn) : Fn := modelF Try.prog (C_pitch_Correct_0 M_wide_MulDiv) 64 133 sig_pitch_Correct osig_pitch_Correct
theorem mf_pitch_Correct_eq (M_wide_MulDiv : Fn) (x0 x1 x2 x3 x4 x5 x6 x7 x8 : Int) (x9 : Rw) (x10 : Int) : mf_pitch_Correct M_wide_MulDiv [I x0, I x1, I x2, I x3, I x4, I x5, I x6, I x7, I x8, .view kInts x9, I x10] =
 bif decide (IntKind.i64.wrap ((x9.length : Int) - 1) < 0) then
 some [I 0]
 else
 bif decide (IntKind.i64.wrap (x10 - x7) <= 0) then
 bif decide (0 <= 0) && decide (0 < (x9.length : Int)) then
 some [jA (nth [] x9 0) 0]
 else
 none
 else
 bif decide (x8 <= 0) then
 bif decide (0 <= 0) && decide (0 < (x9.length : Int)) then
 some [jA (nth [] x9 0) 0]
 else
 none
 else
 bif decide (x8 = 0) then
 none
 else
 bif decide (IntKind.i64.wrap ((IntKind.i64.wrap (x10 - x7)).tdiv x8) >= IntKind.i64.wrap ((x9.length : Int) - 1)) then
 bif decide (0 <= IntKind.i64.wrap ((x9.length : Int) - 1)) && decide (IntKind.i64.wrap ((x9.length : Int) - 1) < (x9.length : Int)) then
 some [jA (nth [] x9 (IntKind.i64.wrap ((x9.length : Int) - 1)).toNat) 0]
 else
 none
 else
 bif decide (0 <= IntKind.i64.wrap (IntKind.i64.wrap ((IntKind.i64.wrap (x10 - x7)).tdiv x8) + 1)) && decide (IntKind.i64.wrap (IntKind.i64.wrap ((IntKind.i64.wrap (x10 - x7)).tdiv x8) + 1) < (x9.length : Int)) then
 bif decide (0 <= IntKind.i64.wrap ((IntKind.i64.wrap (x10 - x7)).tdiv x8)) && decide (IntKind.i64.wrap ((IntKind.i64.wrap (x10 - x7)).tdiv x8) < (x9.length : Int)) then
 (M_wide_MulDiv [I (IntKind.i64.wrap (intOf (nth .dead (nth [] x9 (IntKind.i64.wrap (IntKind.i64.wrap ((IntKind.i64.wrap (x10 - x7)).tdiv x8) + 1)).toNat) 0) - intOf (nth .dead (nth [] x9 (IntKind.i64.wrap ((IntKind.i64.wrap (x10 - x7)).tdiv x8)).toNat) 0))), I (IntKind.i64.wrap (IntKind.i64.wrap (x10 - x7) - IntKind.i64.wrap (IntKind.i64.wrap ((IntKind.i64.wrap (x10 - x7)).tdiv x8) * x8))), I x8, I 2]).bind fun o1 =>
 bif decide (0 <= IntKind.i64.wrap ((IntKind.i64.wrap (x10 - x7)).tdiv x8)) && decide (IntKind.i64.wrap ((IntKind.i64.wrap (x10 - x7)).tdiv x8) < (x9.length : Int)) then
 some [I (IntKind.i64.wrap (intOf (nth .dead (nth [] x9 (IntKind.i64.wrap ((IntKind.i64.wrap (x10 - x7)).tdiv x8)).toNat) 0) + gA o1 0))]
 else
 none
 else
 none
 else
 none := by kernel_rfl
def m_pitch_Correct := mf_pitch_Correct m_wide_MulDiv 
theorem sp_pitch_Correct : SpecOK Try.prog (C_pitch_Correct_0 m_wide_MulDiv) := specOK_of rfl ⟨r_wide_MulDiv, trivial⟩
theorem r_pitch_Correct : RowOK Try.prog (133, spOf sig_pitch_Correct osig_pitch_Correct m_pitch_Correct) := row_of (C := (C_pitch_Correct_0 m_wide_MulDiv)) (L := 64) (by kernel_rfl) (FnOK.bare rfl rfl rfl) sp_pitch_Correct eqOk mixOk (by kernel_rfl) (by kernel_rfl)
def sig_pitch_Motor : Sk := { tmps := [TS.v true [ci, ci, ci, ci, ci, ci, ci, ci, ci, CS.sl kInts], tf [ci]], boxes := [], rows := [] }
def osig_pitch_Motor : Sk := { tmps := [tf [ci]], boxes := [], rows := [] }
def C_pitch_Motor_0 (M_axis_Steps M_pitch_Correct : Fn) : Cfg := { spec := lookS [(132, spOf sig_axis_Steps osig_axis_Steps M_axis_Steps), (133, spOf sig_pitch_Correct osig_pitch_Correct M_pitch_Correct)], eqOk := eqAll, ownOff := ownOff }
def mf_pitch_Motor (M_axis_Steps M_pitch_Correct : Fn) : Fn := modelF Try.prog (C_pitch_Motor_0 M_axis_Steps M_pitch_Correct) 64 89 sig_pitch_Motor osig_pitch_Motor
theorem mf_pitch_Motor_eq (M_axis_Steps M_pitch_Correct : Fn) (x0 x1 x2 x3 x4 x5 x6 x7 x8 : Int) (x9 : Rw) (x10 : Int) : mf_pitch_Motor M_axis_Steps M_pitch_Correct [I x0, I x1, I x2, I x3, I x4, I x5, I x6, I x7, I x8, .view kInts x9, I x10] =
 (M_pitch_Correct [I x0, I x1, I x2, I x3, I x4, I x5, I x6, I x7, I x8, .view kInts x9, I x10]).bind fun o2 =>
 (M_axis_Steps [I x0, I x1, I x2, I x3, I x4, I x5, I x6, I x7, I x8, .view kInts x9, I (IntKind.i64.wrap (x10 + gA o2 0))]).bind fun o3 =>
 some [jA o3 0] := by kernel_rfl
def m_pitch_Motor := mf_pitch_Motor m_axis_Steps m_pitch_Correct 
theorem sp_pitch_Motor : SpecOK Try.prog (C_pitch_Motor_0 m_axis_Steps m_pitch_Correct) := specOK_of rfl ⟨r_axis_Steps, r_pitch_Correct, trivial⟩
theorem r_pitch_Motor : RowOK Try.prog (89, spOf sig_pitch_Motor osig_pitch_Motor m_pitch_Motor) := row_of (C := (C_pitch_Motor_0 m_axis_Steps m_pitch_Correct)) (L := 64) (by kernel_rfl) (FnOK.bare rfl rfl rfl) sp_pitch_Motor eqOk mixOk (by kernel_rfl) (by kernel_rfl)
def sig_track_find : Sk := { tmps := [TS.v true [CS.sl kPce, ci, ci, ci, ci, ci], tf [ci]], boxes := [], rows := [] }
def osig_track_find : Sk := { tmps := [tf [ci]], boxes := [], rows := [] }
def C_track_find_0 : Cfg := { spec := lookS [], eqOk := eqAll, ownOff := ownOff }
def sk_track_find_2 : Sk := { tmps := [td, tf [ci], tf [CS.ptr 2 0], td, td, tf [ci], tf [ci]] ++ dd 29, boxes := [(2, 61, [CS.sl kPce, ci, ci, ci, ci, ci])], rows := [] }
def ex_track_find_2 : List (Ex × Sk) := [(Ex.exit 0, { tmps := [td, td, td, td, td, td, tf [ci]] ++ dd 29, boxes := [], rows := [] })]
def st_track_find_2 : Lp := stepL Try.prog C_track_find_0 64 2 (bodyOf Try.prog 88 2) sk_track_find_2 ex_track_find_2
def C_track_find_1 (N2 : Lp) : Cfg := C_track_find_0.loop 2 sk_track_find_2 ex_track_find_2 N2
def mf_track_find (N2 : Lp) : Fn := modelF Try.prog (C_track_find_1 N2) 64 88 sig_track_find osig_track_find
theorem st_track_find_2_eq (v0 v1 v2 : Int) (v3 : Rw) (v4 v5 v6 v7 v8 : Int) : st_track_find_2 [I v0, I v1, I v2, .view kPce v3, I v4, I v5, I v6, I v7, I v8] =
 bif decide (v1 < v2) then
 bif decide (0 <= IntKind.i64.wrap ((IntKind.i64.wrap (v1 + v2)).tdiv 2)) && decide (IntKind.i64.wrap ((IntKind.i64.wrap (v1 + v2)).tdiv 2) < (v3.length : Int)) then
 bif decide (v0 <= IntKind.i64.wrap (intOf (nth .dead (nth [] v3 (IntKind.i64.wrap ((IntKind.i64.wrap (v1 + v2)).tdiv 2)).toNat) 0) + intOf (nth .dead (nth [] v3 (IntKind.i64.wrap ((IntKind.i64.wrap (v1 + v2)).tdiv 2)).toNat) 1))) then
 some (0, [I v0, I v1, I (IntKind.i64.wrap ((IntKind.i64.wrap (v1 + v2)).tdiv 2)), .view kPce v3, I v4, I v5, I v6, I v7, I v8])
 else
 some (0, [I v0, I (IntKind.i64.wrap (IntKind.i64.wrap ((IntKind.i64.wrap (v1 + v2)).tdiv 2) + 1)), I v2, .view kPce v3, I v4, I v5, I v6, I v7, I v8])
 else
 none
 else
 some (1, [I v2]) := by kernel_rfl
theorem mf_track_find_eq (N2 : Lp) (x0 : Rw) (x1 x2 x3 x4 x5 x6 : Int) : mf_track_find N2 [.view kPce x0, I x1, I x2, I x3, I x4, I x5, I x6] =
 (N2 [I x6, I 0, I (IntKind.i64.wrap ((x0.length : Int) - 1)), .view kPce x0, I x1, I x2, I x3, I x4, I x5]).bind fun o1 =>
 bif o1.1.beq 1 then
 some [jA o1.2 0]
 else
 none := by kernel_rfl
def l_track_find_2 := loopC (st_track_find_2 )
def m_track_find := mf_track_find l_track_find_2
theorem sp_track_find : SpecOK Try.prog (C_track_find_0 ) := specOK_of rfl trivial
theorem r_track_find : RowOK Try.prog (88, spOf sig_track_find osig_track_find m_track_find) := row_of (C := (C_track_find_1 l_track_find_2)) (L := 64) (by kernel_rfl) ((FnOK.bare rfl rfl rfl).loop sp_track_find eqOk mixOk (by kernel_rfl) (by kernel_rfl)) sp_track_find eqOk mixOk (by kernel_rfl) (by kernel_rfl)
def sig_path_Find : Sk := { tmps := [TS.v true [ci, ci, ci, CS.sl kSgm, CS.sl kPt], tf [ci]], boxes := [], rows := [] }
def osig_path_Find : Sk := { tmps := [TS.tup [(false, [ci]), (false, [ci])]], boxes := [], rows := [] }
def C_path_Find_0 : Cfg := { spec := lookS [], eqOk := eqAll, ownOff := ownOff }
def sk_path_Find_3 : Sk := { tmps := [td, tf [ci], tf [CS.ptr 2 0], td, td, td, td, td, td, td, td, tf [CS.sl kSgm], tf [ci], tf [ci]] ++ dd 24, boxes := [(2, 51, [ci, ci, ci, CS.sl kSgm, CS.sl kPt])], rows := [] }
def ex_path_Find_3 : List (Ex × Sk) := [(Ex.ret, { tmps := [td, td, td, td, tf [ci], tf [ci]] ++ dd 32, boxes := [], rows := [] }), (Ex.exit 0, { tmps := [td] ++ dd 37, boxes := [], rows := [] })]
def st_path_Find_3 : Lp := stepL Try.prog C_path_Find_0 64 3 (bodyOf Try.prog 97 3) sk_path_Find_3 ex_path_Find_3
def C_path_Find_1 (N3 : Lp) : Cfg := C_path_Find_0.loop 3 sk_path_Find_3 ex_path_Find_3 N3
def mf_path_Find (N3 : Lp) : Fn := modelF Try.prog (C_path_Find_1 N3) 64 97 sig_path_Find osig_path_Find
theorem st_path_Find_3_eq (v0 : Int) (v1 : Rw) (v2 v3 v4 v5 v6 : Int) (v7 v8 : Rw) : st_path_Find_3 [I v0, .view kSgm v1, I v2, I v3, I v4, I v5, I v6, .view kSgm v7, .view kPt v8] =
 bif decide (v3 < v2) then
 bif decide (0 <= v3) && decide (v3 < (v1.length : Int)) then
 bif decide (v0 < gA (nth [] v1 v3.toNat) 3) then
 some (1, [I v3, I v0])
 else
 bif v3 == IntKind.i64.wrap ((v7.length : Int) - 1) then
 some (1, [I v3, jA (nth [] v1 v3.toNat) 3])
 else
 some (0, [I (IntKind.i64.wrap (v0 - gA (nth [] v1 v3.toNat) 3)), .view kSgm v1, I v2, I (IntKind.i64.wrap (v3 + 1)), I v4, I v5, I v6, .view kSgm v7, .view kPt v8])
 else
 none
 else
 some (2, []) := by kernel_rfl
theorem mf_path_Find_eq (N3 : Lp) (x0 x1 x2 : Int) (x3 x4 : Rw) (x5 : Int) : mf_path_Find N3 [I x0, I x1, I x2, .view kSgm x3, .view kPt x4, I x5] =
 (N3 [I (mx x5 0), .view kSgm x3, I (x3.length : Int), I 0, I x0, I x1, I x2, .view kSgm x3, .view kPt x4]).bind fun o1 =>
 bif o1.1.beq 1 then
 some [jA o1.2 0, jA o1.2 1]
 else
 bif o1.1.beq 2 then
 some [I (-1), I 0]
 else
 none := by kernel_rfl
def l_path_Find_3 := loopC (st_path_Find_3 )
def m_path_Find := mf_path_Find l_path_Find_3
theorem sp_path_Find : SpecOK Try.prog (C_path_Find_0 ) := specOK_of rfl trivial
theorem r_path_Find : RowOK Try.prog (97, spOf sig_path_Find osig_path_Find m_path_Find) := row_of (C := (C_path_Find_1 l_path_Find_3)) (L := 64) (by kernel_rfl) ((FnOK.bare rfl rfl rfl).loop sp_path_Find eqOk mixOk (by kernel_rfl) (by kernel_rfl)) sp_path_Find eqOk mixOk (by kernel_rfl) (by kernel_rfl)
def sig_path_At : Sk := { tmps := [TS.v true [ci, ci, ci, CS.sl kSgm, CS.sl kPt], tf [ci]], boxes := [], rows := [] }
def osig_path_At : Sk := { tmps := [TS.v true [ci, ci, ci]], boxes := [], rows := [] }
def C_path_At_0 (M_wide_MulDiv M_path_Find : Fn) : Cfg := { spec := lookS [(98, spOf sig_wide_MulDiv osig_wide_MulDiv M_wide_MulDiv), (97, spOf sig_path_Find osig_path_Find M_path_Find)], eqOk := eqAll, ownOff := ownOff, unroll := [9] }
def mf_path_At (M_wide_MulDiv M_path_Find : Fn) : Fn := modelF Try.prog (C_path_At_0 M_wide_MulDiv M_path_Find) 64 45 sig_path_At osig_path_At
theorem mf_path_At_eq (M_wide_MulDiv M_path_Find : Fn) (x0 x1 x2 : Int) (x3 x4 : Rw) (x5 : Int) : mf_path_At M_wide_MulDiv M_path_Find [I x0, I x1, I x2, .view kSgm x3, .view kPt x4, I x5] =
 (M_path_Find [I x0, I x1, I x2, .view kSgm x3, .view kPt x4, I x5]).bind fun o7 =>
 bif decide (gA o7 0 < 0) then
 some [I x0, I x1, I x2]
 else
 bif decide (gA o7 0 > 0) then
 bif decide (0 <= IntKind.i64.wrap (gA o7 0 - 1)) && decide (IntKind.i64.wrap (gA o7 0 - 1) < (x3.length : Int)) then
 bif decide (0 <= gA o7 0) && decide (gA o7 0 < (x3.length : Int)) then
 (M_wide_MulDiv [I (IntKind.i64.wrap (gA (nth [] x3 (gA o7 0).toNat) 0 - gA (nth [] x3 (IntKind.i64.wrap (gA o7 0 - 1)).toNat) 0)), jA o7 1, jA (nth [] x3 (gA o7 0).toNat) 3, I 2]).bind fun o8 =>
 (M_wide_MulDiv [I (IntKind.i64.wrap (gA (nth [] x3 (gA o7 0).toNat) 1 - gA (nth [] x3 (IntKind.i64.wrap (gA o7 0 - 1)).toNat) 1)), jA o7 1, jA (nth [] x3 (gA o7 0).toNat) 3, I 2]).bind fun o9 =>
 (M_wide_MulDiv [I (IntKind.i64.wrap (gA (nth [] x3 (gA o7 0).toNat) 2 - gA (nth [] x3 (IntKind.i64.wrap (gA o7 0 - 1)).toNat) 2)), jA o7 1, jA (nth [] x3 (gA o7 0).toNat) 3, I 2]).bind fun o10 =>
 some [I (IntKind.i64.wrap (gA (nth [] x3 (IntKind.i64.wrap (gA o7 0 - 1)).toNat) 0 + gA o8 0)), I (IntKind.i64.wrap (gA (nth [] x3 (IntKind.i64.wrap (gA o7 0 - 1)).toNat) 1 + gA o9 0)), I (IntKind.i64.wrap (gA (nth [] x3 (IntKind.i64.wrap (gA o7 0 - 1)).toNat) 2 + gA o10 0))]
 else
 none
 else
 none
 else
 bif decide (0 <= gA o7 0) && decide (gA o7 0 < (x3.length : Int)) then
 (M_wide_MulDiv [I (IntKind.i64.wrap (gA (nth [] x3 (gA o7 0).toNat) 0 - x0)), jA o7 1, jA (nth [] x3 (gA o7 0).toNat) 3, I 2]).bind fun o11 =>
 (M_wide_MulDiv [I (IntKind.i64.wrap (gA (nth [] x3 (gA o7 0).toNat) 1 - x1)), jA o7 1, jA (nth [] x3 (gA o7 0).toNat) 3, I 2]).bind fun o12 =>
 (M_wide_MulDiv [I (IntKind.i64.wrap (gA (nth [] x3 (gA o7 0).toNat) 2 - x2)), jA o7 1, jA (nth [] x3 (gA o7 0).toNat) 3, I 2]).bind fun o13 =>
 some [I (IntKind.i64.wrap (x0 + gA o11 0)), I (IntKind.i64.wrap (x1 + gA o12 0)), I (IntKind.i64.wrap (x2 + gA o13 0))]
 else
 none := by kernel_rfl
def m_path_At := mf_path_At m_wide_MulDiv m_path_Find 
theorem sp_path_At : SpecOK Try.prog (C_path_At_0 m_wide_MulDiv m_path_Find) := specOK_of rfl ⟨r_wide_MulDiv, r_path_Find, trivial⟩
theorem r_path_At : RowOK Try.prog (45, spOf sig_path_At osig_path_At m_path_At) := row_of (C := (C_path_At_0 m_wide_MulDiv m_path_Find)) (L := 64) (by kernel_rfl) (FnOK.bare rfl rfl rfl) sp_path_At eqOk mixOk (by kernel_rfl) (by kernel_rfl)
def sig_track_clamp : Sk := { tmps := [tf [ci], tf [ci]], boxes := [], rows := [] }
def osig_track_clamp : Sk := { tmps := [tf [ci]], boxes := [], rows := [] }
def C_track_clamp_0 : Cfg := { spec := lookS [], eqOk := eqAll, ownOff := ownOff }
def mf_track_clamp : Fn := modelF Try.prog C_track_clamp_0 64 82 sig_track_clamp osig_track_clamp
theorem mf_track_clamp_eq (x0 x1 : Int) : mf_track_clamp [I x0, I x1] =
 some [I (mx 0 (mn x0 x1))] := by kernel_rfl
def m_track_clamp := mf_track_clamp 
theorem sp_track_clamp : SpecOK Try.prog (C_track_clamp_0 ) := specOK_of rfl trivial
theorem r_track_clamp : RowOK Try.prog (82, spOf sig_track_clamp osig_track_clamp m_track_clamp) := row_of (C := C_track_clamp_0) (L := 64) (by kernel_rfl) (FnOK.bare rfl rfl rfl) sp_track_clamp eqOk mixOk (by kernel_rfl) (by kernel_rfl)
def sig_track_Place : Sk := { tmps := [TS.v true [CS.sl kPce, ci, ci, ci, ci, ci], tf [ci]], boxes := [], rows := [] }
def osig_track_Place : Sk := { tmps := [tf [ci]], boxes := [], rows := [] }
def C_track_Place_0 (M_track_find M_track_clamp : Fn) : Cfg := { spec := lookS [(88, spOf sig_track_find osig_track_find M_track_find), (82, spOf sig_track_clamp osig_track_clamp M_track_clamp)], eqOk := eqAll, ownOff := ownOff }
def mf_track_Place (M_track_find M_track_clamp : Fn) : Fn := modelF Try.prog (C_track_Place_0 M_track_find M_track_clamp) 64 37 sig_track_Place osig_track_Place
theorem mf_track_Place_eq (M_track_find M_track_clamp : Fn) (x0 : Rw) (x1 x2 x3 x4 x5 x6 : Int) : mf_track_Place M_track_find M_track_clamp [.view kPce x0, I x1, I x2, I x3, I x4, I x5, I x6] =
 (M_track_clamp [I x6, I x1]).bind fun o2 =>
 (M_track_find [.view kPce x0, I x1, I x2, I x3, I x4, I x5, jA o2 0]).bind fun o3 =>
 bif decide (gA o3 0 < 0) then
 some [I x2]
 else
 bif decide (0 <= gA o3 0) && decide (gA o3 0 < (x0.length : Int)) then
 bif decide (0 <= gA o3 0) && decide (gA o3 0 < (x0.length : Int)) then
 bif decide (0 <= gA o3 0) && decide (gA o3 0 < (x0.length : Int)) then
 some [I (IntKind.i64.wrap (gA (nth [] x0 (gA o3 0).toNat) 2 + IntKind.i64.wrap (gA (nth [] x0 (gA o3 0).toNat) 3 * IntKind.i64.wrap (gA o2 0 - gA (nth [] x0 (gA o3 0).toNat) 0))))]
 else
 none
 else
 none
 else
 none := by kernel_rfl
def m_track_Place := mf_track_Place m_track_find m_track_clamp 
theorem sp_track_Place : SpecOK Try.prog (C_track_Place_0 m_track_find m_track_clamp) := specOK_of rfl ⟨r_track_find, r_track_clamp, trivial⟩
theorem r_track_Place : RowOK Try.prog (37, spOf sig_track_Place osig_track_Place m_track_Place) := row_of (C := (C_track_Place_0 m_track_find m_track_clamp)) (L := 64) (by kernel_rfl) (FnOK.bare rfl rfl rfl) sp_track_Place eqOk mixOk (by kernel_rfl) (by kernel_rfl)
def sig_track_Motors : Sk := { tmps := [TS.v true [ci, ci, ci, CS.sl kSgm, CS.sl kPt], TS.v true [ci, ci, ci, ci, ci, ci, ci, ci, ci, CS.sl kInts, ci, ci, ci, ci, ci, ci, ci, ci, ci, CS.sl kInts, ci, ci, ci, ci, ci, ci, ci, ci, ci, CS.sl kInts], TS.v true [CS.sl kPce, ci, ci, ci, ci, ci], tf [ci]], boxes := [], rows := [] }
def osig_track_Motors : Sk := { tmps := [TS.v true [ci, ci, ci]], boxes := [], rows := [] }
def C_track_Motors_0 (M_track_shift M_backlash_Shift M_pitch_Motor M_track_find M_path_At M_track_Place M_track_clamp : Fn) : Cfg := { spec := lookS [(91, spOf sig_track_shift osig_track_shift M_track_shift), (90, spOf sig_backlash_Shift osig_backlash_Shift M_backlash_Shift), (89, spOf sig_pitch_Motor osig_pitch_Motor M_pitch_Motor), (88, spOf sig_track_find osig_track_find M_track_find), (45, spOf sig_path_At osig_path_At M_path_At), (37, spOf sig_track_Place osig_track_Place M_track_Place), (82, spOf sig_track_clamp osig_track_clamp M_track_clamp)], eqOk := eqAll, ownOff := ownOff, unroll := [6] }
def mf_track_Motors (M_track_shift M_backlash_Shift M_pitch_Motor M_track_find M_path_At M_track_Place M_track_clamp : Fn) : Fn := modelF Try.prog (C_track_Motors_0 M_track_shift M_backlash_Shift M_pitch_Motor M_track_find M_path_At M_track_Place M_track_clamp) 64 38 sig_track_Motors osig_track_Motors
theorem mf_track_Motors_eq (M_track_shift M_backlash_Shift M_pitch_Motor M_track_find M_path_At M_track_Place M_track_clamp : Fn) (x0 x1 x2 : Int) (x3 x4 : Rw) (x5 x6 x7 x8 x9 x10 x11 x12 x13 : Int) (x14 : Rw) (x15 x16 x17 x18 x19 x20 x21 x22 x23 : Int) (x24 : Rw) (x25 x26 x27 x28 x29 x30 x31 x32 x33 : Int) (x34 x35 : Rw) (x36 x37 x38 x39 x40 x41 : Int) : mf_track_Motors M_track_shift M_backlash_Shift M_pitch_Motor M_track_find M_path_At M_track_Place M_track_clamp [I x0, I x1, I x2, .view kSgm x3, .view kPt x4, I x5, I x6, I x7, I x8, I x9, I x10, I x11, I x12, I x13, .view kInts x14, I x15, I x16, I x17, I x18, I x19, I x20, I x21, I x22, I x23, .view kInts x24, I x25, I x26, I x27, I x28, I x29, I x30, I x31, I x32, I x33, .view kInts x34, .view kPce x35, I x36, I x37, I x38, I x39, I x40, I x41] =
 (M_track_clamp [I x41, I x36]).bind fun o25 =>
 (M_track_Place [.view kPce x35, I x36, I x37, I x38, I x39, I x40, jA o25 0]).bind fun o26 =>
 (M_path_At [I x0, I x1, I x2, .view kSgm x3, .view kPt x4, jA o26 0]).bind fun o27 =>
 (M_track_find [.view kPce x35, I x36, I x37, I x38, I x39, I x40, jA o25 0]).bind fun o28 =>
 (M_pitch_Motor [I x5, I x6, I x7, I x8, I x9, I x10, I x11, I x12, I x13, .view kInts x14, jA o27 0]).bind fun o29 =>
 bif decide (gA o28 0 < 0) then
 (M_backlash_Shift [I x5, I x6, I x7, I x8, I x9, I x10, I x11, I x12, I x13, .view kInts x14, I x38]).bind fun o30 =>
 (M_pitch_Motor [I x15, I x16, I x17, I x18, I x19, I x20, I x21, I x22, I x23, .view kInts x24, jA o27 1]).bind fun o31 =>
 bif decide (gA o28 0 < 0) then
 (M_backlash_Shift [I x15, I x16, I x17, I x18, I x19, I x20, I x21, I x22, I x23, .view kInts x24, I x39]).bind fun o32 =>
 (M_pitch_Motor [I x25, I x26, I x27, I x28, I x29, I x30, I x31, I x32, I x33, .view kInts x34, jA o27 2]).bind fun o33 =>
 bif decide (gA o28 0 < 0) then
 (M_backlash_Shift [I x25, I x26, I x27, I x28, I x29, I x30, I x31, I x32, I x33, .view kInts x34, I x40]).bind fun o34 =>
 some [I (IntKind.i64.wrap (gA o29 0 + gA o30 0)), I (IntKind.i64.wrap (gA o31 0 + gA o32 0)), I (IntKind.i64.wrap (gA o33 0 + gA o34 0))]
 else
 bif decide (0 <= gA o28 0) && decide (gA o28 0 < (x35.length : Int)) then
 (M_track_shift [I x25, I x26, I x27, I x28, I x29, I x30, I x31, I x32, I x33, .view kInts x34, jA (nth [] x35 (gA o28 0).toNat) 0, jA (nth [] x35 (gA o28 0).toNat) 1, jA (nth [] x35 (gA o28 0).toNat) 2, jA (nth [] x35 (gA o28 0).toNat) 3, jA (nth [] x35 (gA o28 0).toNat) 4, jA (nth [] x35 (gA o28 0).toNat) 5, jA (nth [] x35 (gA o28 0).toNat) 6, jA (nth [] x35 (gA o28 0).toNat) 7, jA (nth [] x35 (gA o28 0).toNat) 8, jA (nth [] x35 (gA o28 0).toNat) 9, I (IntKind.i64.wrap (IntKind.i64.wrap (0 + 1) + 1)), jA o25 0]).bind fun o35 =>
 some [I (IntKind.i64.wrap (gA o29 0 + gA o30 0)), I (IntKind.i64.wrap (gA o31 0 + gA o32 0)), I (IntKind.i64.wrap (gA o33 0 + gA o35 0))]
 else
 none
 else
 bif decide (0 <= gA o28 0) && decide (gA o28 0 < (x35.length : Int)) then
 (M_track_shift [I x15, I x16, I x17, I x18, I x19, I x20, I x21, I x22, I x23, .view kInts x24, jA (nth [] x35 (gA o28 0).toNat) 0, jA (nth [] x35 (gA o28 0).toNat) 1, jA (nth [] x35 (gA o28 0).toNat) 2, jA (nth [] x35 (gA o28 0).toNat) 3, jA (nth [] x35 (gA o28 0).toNat) 4, jA (nth [] x35 (gA o28 0).toNat) 5, jA (nth [] x35 (gA o28 0).toNat) 6, jA (nth [] x35 (gA o28 0).toNat) 7, jA (nth [] x35 (gA o28 0).toNat) 8, jA (nth [] x35 (gA o28 0).toNat) 9, I (IntKind.i64.wrap (0 + 1)), jA o25 0]).bind fun o36 =>
 (M_pitch_Motor [I x25, I x26, I x27, I x28, I x29, I x30, I x31, I x32, I x33, .view kInts x34, jA o27 2]).bind fun o37 =>
 bif decide (gA o28 0 < 0) then
 (M_backlash_Shift [I x25, I x26, I x27, I x28, I x29, I x30, I x31, I x32, I x33, .view kInts x34, I x40]).bind fun o38 =>
 some [I (IntKind.i64.wrap (gA o29 0 + gA o30 0)), I (IntKind.i64.wrap (gA o31 0 + gA o36 0)), I (IntKind.i64.wrap (gA o37 0 + gA o38 0))]
 else
 bif decide (0 <= gA o28 0) && decide (gA o28 0 < (x35.length : Int)) then
 (M_track_shift [I x25, I x26, I x27, I x28, I x29, I x30, I x31, I x32, I x33, .view kInts x34, jA (nth [] x35 (gA o28 0).toNat) 0, jA (nth [] x35 (gA o28 0).toNat) 1, jA (nth [] x35 (gA o28 0).toNat) 2, jA (nth [] x35 (gA o28 0).toNat) 3, jA (nth [] x35 (gA o28 0).toNat) 4, jA (nth [] x35 (gA o28 0).toNat) 5, jA (nth [] x35 (gA o28 0).toNat) 6, jA (nth [] x35 (gA o28 0).toNat) 7, jA (nth [] x35 (gA o28 0).toNat) 8, jA (nth [] x35 (gA o28 0).toNat) 9, I (IntKind.i64.wrap (IntKind.i64.wrap (0 + 1) + 1)), jA o25 0]).bind fun o39 =>
 some [I (IntKind.i64.wrap (gA o29 0 + gA o30 0)), I (IntKind.i64.wrap (gA o31 0 + gA o36 0)), I (IntKind.i64.wrap (gA o37 0 + gA o39 0))]
 else
 none
 else
 none
 else
 bif decide (0 <= gA o28 0) && decide (gA o28 0 < (x35.length : Int)) then
 (M_track_shift [I x5, I x6, I x7, I x8, I x9, I x10, I x11, I x12, I x13, .view kInts x14, jA (nth [] x35 (gA o28 0).toNat) 0, jA (nth [] x35 (gA o28 0).toNat) 1, jA (nth [] x35 (gA o28 0).toNat) 2, jA (nth [] x35 (gA o28 0).toNat) 3, jA (nth [] x35 (gA o28 0).toNat) 4, jA (nth [] x35 (gA o28 0).toNat) 5, jA (nth [] x35 (gA o28 0).toNat) 6, jA (nth [] x35 (gA o28 0).toNat) 7, jA (nth [] x35 (gA o28 0).toNat) 8, jA (nth [] x35 (gA o28 0).toNat) 9, I 0, jA o25 0]).bind fun o40 =>
 (M_pitch_Motor [I x15, I x16, I x17, I x18, I x19, I x20, I x21, I x22, I x23, .view kInts x24, jA o27 1]).bind fun o41 =>
 bif decide (gA o28 0 < 0) then
 (M_backlash_Shift [I x15, I x16, I x17, I x18, I x19, I x20, I x21, I x22, I x23, .view kInts x24, I x39]).bind fun o42 =>
 (M_pitch_Motor [I x25, I x26, I x27, I x28, I x29, I x30, I x31, I x32, I x33, .view kInts x34, jA o27 2]).bind fun o43 =>
 bif decide (gA o28 0 < 0) then
 (M_backlash_Shift [I x25, I x26, I x27, I x28, I x29, I x30, I x31, I x32, I x33, .view kInts x34, I x40]).bind fun o44 =>
 some [I (IntKind.i64.wrap (gA o29 0 + gA o40 0)), I (IntKind.i64.wrap (gA o41 0 + gA o42 0)), I (IntKind.i64.wrap (gA o43 0 + gA o44 0))]
 else
 bif decide (0 <= gA o28 0) && decide (gA o28 0 < (x35.length : Int)) then
 (M_track_shift [I x25, I x26, I x27, I x28, I x29, I x30, I x31, I x32, I x33, .view kInts x34, jA (nth [] x35 (gA o28 0).toNat) 0, jA (nth [] x35 (gA o28 0).toNat) 1, jA (nth [] x35 (gA o28 0).toNat) 2, jA (nth [] x35 (gA o28 0).toNat) 3, jA (nth [] x35 (gA o28 0).toNat) 4, jA (nth [] x35 (gA o28 0).toNat) 5, jA (nth [] x35 (gA o28 0).toNat) 6, jA (nth [] x35 (gA o28 0).toNat) 7, jA (nth [] x35 (gA o28 0).toNat) 8, jA (nth [] x35 (gA o28 0).toNat) 9, I (IntKind.i64.wrap (IntKind.i64.wrap (0 + 1) + 1)), jA o25 0]).bind fun o45 =>
 some [I (IntKind.i64.wrap (gA o29 0 + gA o40 0)), I (IntKind.i64.wrap (gA o41 0 + gA o42 0)), I (IntKind.i64.wrap (gA o43 0 + gA o45 0))]
 else
 none
 else
 bif decide (0 <= gA o28 0) && decide (gA o28 0 < (x35.length : Int)) then
 (M_track_shift [I x15, I x16, I x17, I x18, I x19, I x20, I x21, I x22, I x23, .view kInts x24, jA (nth [] x35 (gA o28 0).toNat) 0, jA (nth [] x35 (gA o28 0).toNat) 1, jA (nth [] x35 (gA o28 0).toNat) 2, jA (nth [] x35 (gA o28 0).toNat) 3, jA (nth [] x35 (gA o28 0).toNat) 4, jA (nth [] x35 (gA o28 0).toNat) 5, jA (nth [] x35 (gA o28 0).toNat) 6, jA (nth [] x35 (gA o28 0).toNat) 7, jA (nth [] x35 (gA o28 0).toNat) 8, jA (nth [] x35 (gA o28 0).toNat) 9, I (IntKind.i64.wrap (0 + 1)), jA o25 0]).bind fun o46 =>
 (M_pitch_Motor [I x25, I x26, I x27, I x28, I x29, I x30, I x31, I x32, I x33, .view kInts x34, jA o27 2]).bind fun o47 =>
 bif decide (gA o28 0 < 0) then
 (M_backlash_Shift [I x25, I x26, I x27, I x28, I x29, I x30, I x31, I x32, I x33, .view kInts x34, I x40]).bind fun o48 =>
 some [I (IntKind.i64.wrap (gA o29 0 + gA o40 0)), I (IntKind.i64.wrap (gA o41 0 + gA o46 0)), I (IntKind.i64.wrap (gA o47 0 + gA o48 0))]
 else
 bif decide (0 <= gA o28 0) && decide (gA o28 0 < (x35.length : Int)) then
 (M_track_shift [I x25, I x26, I x27, I x28, I x29, I x30, I x31, I x32, I x33, .view kInts x34, jA (nth [] x35 (gA o28 0).toNat) 0, jA (nth [] x35 (gA o28 0).toNat) 1, jA (nth [] x35 (gA o28 0).toNat) 2, jA (nth [] x35 (gA o28 0).toNat) 3, jA (nth [] x35 (gA o28 0).toNat) 4, jA (nth [] x35 (gA o28 0).toNat) 5, jA (nth [] x35 (gA o28 0).toNat) 6, jA (nth [] x35 (gA o28 0).toNat) 7, jA (nth [] x35 (gA o28 0).toNat) 8, jA (nth [] x35 (gA o28 0).toNat) 9, I (IntKind.i64.wrap (IntKind.i64.wrap (0 + 1) + 1)), jA o25 0]).bind fun o49 =>
 some [I (IntKind.i64.wrap (gA o29 0 + gA o40 0)), I (IntKind.i64.wrap (gA o41 0 + gA o46 0)), I (IntKind.i64.wrap (gA o47 0 + gA o49 0))]
 else
 none
 else
 none
 else
 none := by kernel_rfl
def m_track_Motors := mf_track_Motors m_track_shift m_backlash_Shift m_pitch_Motor m_track_find m_path_At m_track_Place m_track_clamp 
theorem sp_track_Motors : SpecOK Try.prog (C_track_Motors_0 m_track_shift m_backlash_Shift m_pitch_Motor m_track_find m_path_At m_track_Place m_track_clamp) := specOK_of rfl ⟨r_track_shift, r_backlash_Shift, r_pitch_Motor, r_track_find, r_path_At, r_track_Place, r_track_clamp, trivial⟩
theorem r_track_Motors : RowOK Try.prog (38, spOf sig_track_Motors osig_track_Motors m_track_Motors) := row_of (C := (C_track_Motors_0 m_track_shift m_backlash_Shift m_pitch_Motor m_track_find m_path_At m_track_Place m_track_clamp)) (L := 64) (by kernel_rfl) (FnOK.bare rfl rfl rfl) sp_track_Motors eqOk mixOk (by kernel_rfl) (by kernel_rfl)
def sig_track_takeUp : Sk := { tmps := [TS.v true [ci, ci, ci, ci, ci, ci, ci, ci, ci, CS.sl kInts, ci, ci, ci, ci, ci, ci, ci, ci, ci, CS.sl kInts, ci, ci, ci, ci, ci, ci, ci, ci, ci, CS.sl kInts], TS.v true [ci, ci, ci], TS.v true [ci, ci, ci]], boxes := [], rows := [] }
def osig_track_takeUp : Sk := { tmps := [tf [ci]], boxes := [], rows := [] }
def C_track_takeUp_0 : Cfg := { spec := lookS [], eqOk := eqAll, ownOff := ownOff, unroll := [3] }
def mf_track_takeUp : Fn := modelF Try.prog C_track_takeUp_0 64 86 sig_track_takeUp osig_track_takeUp
theorem mf_track_takeUp_eq (x0 x1 x2 x3 x4 x5 x6 x7 x8 : Int) (x9 : Rw) (x10 x11 x12 x13 x14 x15 x16 x17 x18 : Int) (x19 : Rw) (x20 x21 x22 x23 x24 x25 x26 x27 x28 : Int) (x29 : Rw) (x30 x31 x32 x33 x34 x35 : Int) : mf_track_takeUp [I x0, I x1, I x2, I x3, I x4, I x5, I x6, I x7, I x8, .view kInts x9, I x10, I x11, I x12, I x13, I x14, I x15, I x16, I x17, I x18, .view kInts x19, I x20, I x21, I x22, I x23, I x24, I x25, I x26, I x27, I x28, .view kInts x29, I x30, I x31, I x32, I x33, I x34, I x35] =
 bif x30 != x33 then
 bif x31 != x34 then
 bif x32 != x35 then
 some [I (mx (mx (mx 0 x6) x16) x26)]
 else
 some [I (mx (mx 0 x6) x16)]
 else
 bif x32 != x35 then
 some [I (mx (mx 0 x6) x26)]
 else
 some [I (mx 0 x6)]
 else
 bif x31 != x34 then
 bif x32 != x35 then
 some [I (mx (mx 0 x16) x26)]
 else
 some [I (mx 0 x16)]
 else
 bif x32 != x35 then
 some [I (mx 0 x26)]
 else
 some [I 0] := by kernel_rfl
def m_track_takeUp := mf_track_takeUp 
theorem sp_track_takeUp : SpecOK Try.prog (C_track_takeUp_0 ) := specOK_of rfl trivial
theorem r_track_takeUp : RowOK Try.prog (86, spOf sig_track_takeUp osig_track_takeUp m_track_takeUp) := row_of (C := C_track_takeUp_0) (L := 64) (by kernel_rfl) (FnOK.bare rfl rfl rfl) sp_track_takeUp eqOk mixOk (by kernel_rfl) (by kernel_rfl)
def sig_track_turned : Sk := { tmps := [TS.v true [ci, ci, ci], TS.v true [ci, ci, ci], TS.v true [ci, ci, ci], tf [ci]], boxes := [], rows := [] }
def osig_track_turned : Sk := { tmps := [TS.v true [ci, ci, ci]], boxes := [], rows := [] }
def C_track_turned_0 : Cfg := { spec := lookS [], eqOk := eqAll, ownOff := ownOff, unroll := [2] }
def mf_track_turned : Fn := modelF Try.prog C_track_turned_0 64 85 sig_track_turned osig_track_turned
theorem mf_track_turned_eq (x0 x1 x2 x3 x4 x5 x6 x7 x8 x9 : Int) : mf_track_turned [I x0, I x1, I x2, I x3, I x4, I x5, I x6, I x7, I x8, I x9] =
 bif decide (x6 > x3) then
 bif decide (x7 > x4) then
 bif decide (x8 > x5) then
 some [I x9, I x9, I x9]
 else
 bif decide (x8 < x5) then
 some [I x9, I x9, I (IntKind.i64.wrap (0 - x9))]
 else
 some [I x9, I x9, I x2]
 else
 bif decide (x7 < x4) then
 bif decide (x8 > x5) then
 some [I x9, I (IntKind.i64.wrap (0 - x9)), I x9]
 else
 bif decide (x8 < x5) then
 some [I x9, I (IntKind.i64.wrap (0 - x9)), I (IntKind.i64.wrap (0 - x9))]
 else
 some [I x9, I (IntKind.i64.wrap (0 - x9)), I x2]
 else
 bif decide (x8 > x5) then
 some [I x9, I x1, I x9]
 else
 bif decide (x8 < x5) then
 some [I x9, I x1, I (IntKind.i64.wrap (0 - x9))]
 else
 some [I x9, I x1, I x2]
 else
 bif decide (x6 < x3) then
 bif decide (x7 > x4) then
 bif decide (x8 > x5) then
 some [I (IntKind.i64.wrap (0 - x9)), I x9, I x9]
 else
 bif decide (x8 < x5) then
 some [I (IntKind.i64.wrap (0 - x9)), I x9, I (IntKind.i64.wrap (0 - x9))]
 else
 some [I (IntKind.i64.wrap (0 - x9)), I x9, I x2]
 else
 bif decide (x7 < x4) then
 bif decide (x8 > x5) then
 some [I (IntKind.i64.wrap (0 - x9)), I (IntKind.i64.wrap (0 - x9)), I x9]
 else
 bif decide (x8 < x5) then
 some [I (IntKind.i64.wrap (0 - x9)), I (IntKind.i64.wrap (0 - x9)), I (IntKind.i64.wrap (0 - x9))]
 else
 some [I (IntKind.i64.wrap (0 - x9)), I (IntKind.i64.wrap (0 - x9)), I x2]
 else
 bif decide (x8 > x5) then
 some [I (IntKind.i64.wrap (0 - x9)), I x1, I x9]
 else
 bif decide (x8 < x5) then
 some [I (IntKind.i64.wrap (0 - x9)), I x1, I (IntKind.i64.wrap (0 - x9))]
 else
 some [I (IntKind.i64.wrap (0 - x9)), I x1, I x2]
 else
 bif decide (x7 > x4) then
 bif decide (x8 > x5) then
 some [I x0, I x9, I x9]
 else
 bif decide (x8 < x5) then
 some [I x0, I x9, I (IntKind.i64.wrap (0 - x9))]
 else
 some [I x0, I x9, I x2]
 else
 bif decide (x7 < x4) then
 bif decide (x8 > x5) then
 some [I x0, I (IntKind.i64.wrap (0 - x9)), I x9]
 else
 bif decide (x8 < x5) then
 some [I x0, I (IntKind.i64.wrap (0 - x9)), I (IntKind.i64.wrap (0 - x9))]
 else
 some [I x0, I (IntKind.i64.wrap (0 - x9)), I x2]
 else
 bif decide (x8 > x5) then
 some [I x0, I x1, I x9]
 else
 bif decide (x8 < x5) then
 some [I x0, I x1, I (IntKind.i64.wrap (0 - x9))]
 else
 some [I x0, I x1, I x2] := by kernel_rfl
def m_track_turned := mf_track_turned 
theorem sp_track_turned : SpecOK Try.prog (C_track_turned_0 ) := specOK_of rfl trivial
theorem r_track_turned : RowOK Try.prog (85, spOf sig_track_turned osig_track_turned m_track_turned) := row_of (C := C_track_turned_0) (L := 64) (by kernel_rfl) (FnOK.bare rfl rfl rfl) sp_track_turned eqOk mixOk (by kernel_rfl) (by kernel_rfl)
def sig_track_Leg_1 : Sk := { tmps := [TS.v true [ci, ci, ci, ci, ci, ci, ci, ci, ci, ci], tf [CS.ptr 20000 0]], boxes := [(20000, 61, [CS.own 20000 10, ci, ci, ci, ci, ci])], rows := [(20000, 114, kPce)] }
def osig_track_Leg_1 : Sk := { tmps := [TS.tup []], boxes := [(20000, 61, [CS.own 20000 10, ci, ci, ci, ci, ci])], rows := [(20000, 114, kPce)] }
def C_track_Leg_1_0 : Cfg := { spec := lookS [], eqOk := eqAll, ownOff := ownOff }
def mf_track_Leg_1 : Fn := modelF Try.prog C_track_Leg_1_0 64 83 sig_track_Leg_1 osig_track_Leg_1
theorem mf_track_Leg_1_eq (x0 : Rw) (x1 x2 x3 x4 x5 x6 x7 x8 x9 x10 x11 x12 x13 x14 x15 : Int) : mf_track_Leg_1 [.view kPce x0, I x1, I x2, I x3, I x4, I x5, I x6, I x7, I x8, I x9, I x10, I x11, I x12, I x13, I x14, I x15] =
 bif decide ((x0.length : Int) > 0) then
 bif x4 != 0 then
 bif decide (0 <= IntKind.i64.wrap ((x0.length : Int) - 1)) && decide (IntKind.i64.wrap ((x0.length : Int) - 1) < (x0.length : Int)) then
 bif gA (nth [] x0 (IntKind.i64.wrap ((x0.length : Int) - 1)).toNat) 3 == x4 then
 bif decide (0 <= IntKind.i64.wrap ((x0.length : Int) - 1)) && decide (IntKind.i64.wrap ((x0.length : Int) - 1) < (x0.length : Int)) then
 bif gA (nth [] x0 (IntKind.i64.wrap ((x0.length : Int) - 1)).toNat) 7 == x8 && (gA (nth [] x0 (IntKind.i64.wrap ((x0.length : Int) - 1)).toNat) 8 == x9 && (gA (nth [] x0 (IntKind.i64.wrap ((x0.length : Int) - 1)).toNat) 9 == x10 && true)) then
 bif decide (0 <= IntKind.i64.wrap ((x0.length : Int) - 1)) && decide (IntKind.i64.wrap ((x0.length : Int) - 1) < (x0.length : Int)) then
 bif decide (0 <= IntKind.i64.wrap ((x0.length : Int) - 1)) && decide (IntKind.i64.wrap ((x0.length : Int) - 1) < (x0.length : Int)) then
 some [.view kPce (x0.set (IntKind.i64.wrap ((x0.length : Int) - 1)).toNat [jA (nth [] x0 (IntKind.i64.wrap ((x0.length : Int) - 1)).toNat) 0, I (IntKind.i64.wrap (gA (nth [] x0 (IntKind.i64.wrap ((x0.length : Int) - 1)).toNat) 1 + x2)), jA (nth [] x0 (IntKind.i64.wrap ((x0.length : Int) - 1)).toNat) 2, jA (nth [] x0 (IntKind.i64.wrap ((x0.length : Int) - 1)).toNat) 3, jA (nth [] x0 (IntKind.i64.wrap ((x0.length : Int) - 1)).toNat) 4, jA (nth [] x0 (IntKind.i64.wrap ((x0.length : Int) - 1)).toNat) 5, jA (nth [] x0 (IntKind.i64.wrap ((x0.length : Int) - 1)).toNat) 6, jA (nth [] x0 (IntKind.i64.wrap ((x0.length : Int) - 1)).toNat) 7, jA (nth [] x0 (IntKind.i64.wrap ((x0.length : Int) - 1)).toNat) 8, jA (nth [] x0 (IntKind.i64.wrap ((x0.length : Int) - 1)).toNat) 9]), I (IntKind.i64.wrap (x11 + x2)), I x12, I x13, I x14, I x15]
 else
 none
 else
 none
 else
 bif ((x0 ++ [[I x11, I x2, I x3, I x4, I x5, I x6, I x7, I x8, I x9, I x10]]).length * 80).ble 140737488355328 then
 some [.view kPce (x0 ++ [[I x11, I x2, I x3, I x4, I x5, I x6, I x7, I x8, I x9, I x10]]), I (IntKind.i64.wrap (x11 + x2)), I x12, I x13, I x14, I x15]
 else
 none
 else
 none
 else
 bif ((x0 ++ [[I x11, I x2, I x3, I x4, I x5, I x6, I x7, I x8, I x9, I x10]]).length * 80).ble 140737488355328 then
 some [.view kPce (x0 ++ [[I x11, I x2, I x3, I x4, I x5, I x6, I x7, I x8, I x9, I x10]]), I (IntKind.i64.wrap (x11 + x2)), I x12, I x13, I x14, I x15]
 else
 none
 else
 none
 else
 bif ((x0 ++ [[I x11, I x2, I x3, I x4, I x5, I x6, I x7, I x8, I x9, I x10]]).length * 80).ble 140737488355328 then
 some [.view kPce (x0 ++ [[I x11, I x2, I x3, I x4, I x5, I x6, I x7, I x8, I x9, I x10]]), I (IntKind.i64.wrap (x11 + x2)), I x12, I x13, I x14, I x15]
 else
 none
 else
 bif ((x0 ++ [[I x11, I x2, I x3, I x4, I x5, I x6, I x7, I x8, I x9, I x10]]).length * 80).ble 140737488355328 then
 some [.view kPce (x0 ++ [[I x11, I x2, I x3, I x4, I x5, I x6, I x7, I x8, I x9, I x10]]), I (IntKind.i64.wrap (x11 + x2)), I x12, I x13, I x14, I x15]
 else
 none := by kernel_rfl
def m_track_Leg_1 := mf_track_Leg_1 
theorem sp_track_Leg_1 : SpecOK Try.prog (C_track_Leg_1_0 ) := specOK_of rfl trivial
theorem r_track_Leg_1 : RowOK Try.prog (83, spOf sig_track_Leg_1 osig_track_Leg_1 m_track_Leg_1) := row_of (C := C_track_Leg_1_0) (L := 64) (by kernel_rfl) (FnOK.bare rfl rfl rfl) sp_track_Leg_1 eqOk mixOk (by kernel_rfl) (by kernel_rfl)
def sig_track_Leg_2 : Sk := { tmps := [TS.v true [ci, ci, ci], TS.v true [ci, ci, ci], tf [ci], tf [ci], tf [CS.ptr 20000 0], tf [CS.ptr 20001 0], tf [CS.ptr 20002 0], tf [CS.ptr 20003 0]], boxes := [(20000, 22, [ci, ci, ci]), (20001, 3, [ci]), (20002, 55, [ci, ci, ci, ci, ci, ci, ci, ci, ci, CS.sl kInts, ci, ci, ci, ci, ci, ci, ci, ci, ci, CS.sl kInts, ci, ci, ci, ci, ci, ci, ci, ci, ci, CS.sl kInts]), (20003, 115, [CS.clo 83 [] [(20004, 0)]]), (20004, 61, [CS.own 20000 10, ci, ci, ci, ci, ci])], rows := [(20000, 114, kPce)] }
def osig_track_Leg_2 : Sk := { tmps := [TS.tup []], boxes := [(20000, 22, [ci, ci, ci]), (20001, 3, [ci]), (20002, 55, [ci, ci, ci, ci, ci, ci, ci, ci, ci, CS.sl kInts, ci, ci, ci, ci, ci, ci, ci, ci, ci, CS.sl kInts, ci, ci, ci, ci, ci, ci, ci, ci, ci, CS.sl kInts]), (20003, 115, [CS.clo 83 [] [(20004, 0)]]), (20004, 61, [CS.own 20000 10, ci, ci, ci, ci, ci])], rows := [(20000, 114, kPce)] }
def C_track_Leg_2_0 (M_track_takeUp M_track_turned M_track_Leg_1 : Fn) : Cfg := { spec := lookS [(86, spOf sig_track_takeUp osig_track_takeUp M_track_takeUp), (85, spOf sig_track_turned osig_track_turned M_track_turned), (83, spOf sig_track_Leg_1 osig_track_Leg_1 M_track_Leg_1)], eqOk := eqAll, pure := fun f => !(elemN [83] f), ownOff := ownOff }
def mf_track_Leg_2 (M_track_takeUp M_track_turned M_track_Leg_1 : Fn) : Fn := modelF Try.prog (C_track_Leg_2_0 M_track_takeUp M_track_turned M_track_Leg_1) 64 84 sig_track_Leg_2 osig_track_Leg_2
theorem mf_track_Leg_2_eq (M_track_takeUp M_track_turned M_track_Leg_1 : Fn) (x0 : Rw) (x1 x2 x3 x4 x5 x6 x7 x8 x9 x10 x11 x12 x13 x14 x15 x16 x17 x18 x19 x20 x21 : Int) (x22 : Rw) (x23 x24 x25 x26 x27 x28 x29 x30 x31 : Int) (x32 : Rw) (x33 x34 x35 x36 x37 x38 x39 x40 x41 : Int) (x42 : Rw) (x43 x44 x45 x46 x47 : Int) : mf_track_Leg_2 M_track_takeUp M_track_turned M_track_Leg_1 [.view kPce x0, I x1, I x2, I x3, I x4, I x5, I x6, I x7, I x8, I x9, I x10, I x11, I x12, I x13, I x14, I x15, I x16, I x17, I x18, I x19, I x20, I x21, .view kInts x22, I x23, I x24, I x25, I x26, I x27, I x28, I x29, I x30, I x31, .view kInts x32, I x33, I x34, I x35, I x36, I x37, I x38, I x39, I x40, I x41, .view kInts x42, I x43, I x44, I x45, I x46, I x47] =
 (M_track_turned [I x9, I x10, I x11, I x1, I x2, I x3, I x4, I x5, I x6, I x12]).bind fun o5 =>
 (M_track_takeUp [I x13, I x14, I x15, I x16, I x17, I x18, I x19, I x20, I x21, .view kInts x22, I x23, I x24, I x25, I x26, I x27, I x28, I x29, I x30, I x31, .view kInts x32, I x33, I x34, I x35, I x36, I x37, I x38, I x39, I x40, I x41, .view kInts x42, I x9, I x10, I x11, jA o5 0, jA o5 1, jA o5 2]).bind fun o6 =>
 bif decide (gA o6 0 > 0) then
 (M_track_Leg_1 [.view kPce x0, I 0, jA o6 0, I x7, I 0, I x9, I x10, I x11, jA o5 0, jA o5 1, jA o5 2, I x43, I x44, I x45, I x46, I x47]).bind fun o7 =>
 (M_track_Leg_1 [.view kPce (wA o7 0), I 0, I x8, I x7, I x12, jA o5 0, jA o5 1, jA o5 2, jA o5 0, jA o5 1, jA o5 2, jA o7 1, jA o7 2, jA o7 3, jA o7 4, jA o7 5]).bind fun o8 =>
 some [.view kPce (wA o8 0), jA o5 0, jA o5 1, jA o5 2, I x12, I x13, I x14, I x15, I x16, I x17, I x18, I x19, I x20, I x21, .view kInts x22, I x23, I x24, I x25, I x26, I x27, I x28, I x29, I x30, I x31, .view kInts x32, I x33, I x34, I x35, I x36, I x37, I x38, I x39, I x40, I x41, .view kInts x42, jA o8 1, jA o8 2, jA o8 3, jA o8 4, jA o8 5]
 else
 (M_track_Leg_1 [.view kPce x0, I 0, I x8, I x7, I x12, jA o5 0, jA o5 1, jA o5 2, jA o5 0, jA o5 1, jA o5 2, I x43, I x44, I x45, I x46, I x47]).bind fun o9 =>
 some [.view kPce (wA o9 0), jA o5 0, jA o5 1, jA o5 2, I x12, I x13, I x14, I x15, I x16, I x17, I x18, I x19, I x20, I x21, .view kInts x22, I x23, I x24, I x25, I x26, I x27, I x28, I x29, I x30, I x31, .view kInts x32, I x33, I x34, I x35, I x36, I x37, I x38, I x39, I x40, I x41, .view kInts x42, jA o9 1, jA o9 2, jA o9 3, jA o9 4, jA o9 5] := by kernel_rfl
def m_track_Leg_2 := mf_track_Leg_2 m_track_takeUp m_track_turned m_track_Leg_1 
theorem sp_track_Leg_2 : SpecOK Try.prog (C_track_Leg_2_0 m_track_takeUp m_track_turned m_track_Leg_1) := specOK_of rfl ⟨r_track_takeUp, r_track_turned, r_track_Leg_1, trivial⟩
theorem r_track_Leg_2 : RowOK Try.prog (84, spOf sig_track_Leg_2 osig_track_Leg_2 m_track_Leg_2) := row_of (C := (C_track_Leg_2_0 m_track_takeUp m_track_turned m_track_Leg_1)) (L := 64) (by kernel_rfl) (FnOK.bare rfl rfl rfl) sp_track_Leg_2 eqOk mixOk (by kernel_rfl) (by kernel_rfl)
def sig_track_each : Sk := { tmps := [TS.v true [ci, ci, ci, CS.sl kSgm, CS.sl kPt], tf [ci], tf [ci], tf [ci], tf [CS.clo 84 [] [(20000, 0), (20001, 0), (20002, 0), (20003, 0)]]], boxes := [(20000, 22, [ci, ci, ci]), (20001, 3, [ci]), (20002, 55, [ci, ci, ci, ci, ci, ci, ci, ci, ci, CS.sl kInts, ci, ci, ci, ci, ci, ci, ci, ci, ci, CS.sl kInts, ci, ci, ci, ci, ci, ci, ci, ci, ci, CS.sl kInts]), (20003, 115, [CS.clo 83 [] [(20004, 0)]]), (20004, 61, [CS.own 20000 10, ci, ci, ci, ci, ci])], rows := [(20000, 114, kPce)] }
def osig_track_each : Sk := { tmps := [TS.tup []], boxes := [(20000, 22, [ci, ci, ci]), (20001, 3, [ci]), (20002, 55, [ci, ci, ci, ci, ci, ci, ci, ci, ci, CS.sl kInts, ci, ci, ci, ci, ci, ci, ci, ci, ci, CS.sl kInts, ci, ci, ci, ci, ci, ci, ci, ci, ci, CS.sl kInts]), (20003, 115, [CS.clo 83 [] [(20004, 0)]]), (20004, 61, [CS.own 20000 10, ci, ci, ci, ci, ci])], rows := [(20000, 114, kPce)] }
def C_track_each_0 (M_track_Leg_2 : Fn) : Cfg := { spec := lookS [(84, spOf sig_track_Leg_2 osig_track_Leg_2 M_track_Leg_2)], eqOk := eqAll, pure := fun f => !(elemN [84] f), ownOff := ownOff, prom := fun b => bif Nat.beq b 4 then [(11, 3)] else [] }
def sk_track_each_4 : Sk := { tmps := [td, tf [ci], tf [ci], tf [ci], tf [CS.clo 84 [] [(20000, 0), (20001, 0), (20002, 0), (20003, 0)]], tf [CS.ptr 5 0], td, td, td, td, tf [ci], tf [CS.own 11 1], td, td, td, td, td, td, td, td, td, tf [CS.sl kSgm], tf [ci], tf [ci]] ++ dd 78, boxes := [(5, 51, [ci, ci, ci, CS.sl kSgm, CS.sl kPt]), (20000, 22, [ci, ci, ci]), (20001, 3, [ci]), (20002, 55, [ci, ci, ci, ci, ci, ci, ci, ci, ci, CS.sl kInts, ci, ci, ci, ci, ci, ci, ci, ci, ci, CS.sl kInts, ci, ci, ci, ci, ci, ci, ci, ci, ci, CS.sl kInts]), (20003, 115, [CS.clo 83 [] [(20004, 0)]]), (20004, 61, [CS.own 20000 10, ci, ci, ci, ci, ci])], rows := [(11, 3, kInts), (20000, 114, kPce)] }
def ex_track_each_4 : List (Ex × Sk) := [(Ex.exit 0, { tmps := [td, tf [ci], tf [ci], tf [ci], tf [CS.clo 84 [] [(20000, 0), (20001, 0), (20002, 0), (20003, 0)]], tf [CS.ptr 5 0], td, td, td, td, td, tf [CS.own 11 1]] ++ dd 90, boxes := [(5, 51, [ci, ci, ci, CS.sl kSgm, CS.sl kPt]), (20000, 22, [ci, ci, ci]), (20001, 3, [ci]), (20002, 55, [ci, ci, ci, ci, ci, ci, ci, ci, ci, CS.sl kInts, ci, ci, ci, ci, ci, ci, ci, ci, ci, CS.sl kInts, ci, ci, ci, ci, ci, ci, ci, ci, ci, CS.sl kInts]), (20003, 115, [CS.clo 83 [] [(20004, 0)]]), (20004, 61, [CS.own 20000 10, ci, ci, ci, ci, ci])], rows := [(11, 3, kInts), (20000, 114, kPce)] })]
def st_track_each_4 (M_track_Leg_2 : Fn) : Lp := stepL Try.prog (C_track_each_0 M_track_Leg_2) 64 4 (bodyOf Try.prog 87 4) sk_track_each_4 ex_track_each_4
def C_track_each_1 (M_track_Leg_2 : Fn) (N4 : Lp) : Cfg := (C_track_each_0 M_track_Leg_2).loop 4 sk_track_each_4 ex_track_each_4 N4
def sk_track_each_10 : Sk := { tmps := [td, tf [ci], tf [ci], tf [ci], tf [CS.clo 84 [] [(20000, 0), (20001, 0), (20002, 0), (20003, 0)]], tf [CS.ptr 5 0], td, td, td, td, td, tf [CS.own 11 1], td, td, td, td, td, td, td, td, td, td, td, td, td, td, td, td, td, td, td, td, td, td, td, td, td, td, tf [ci], tf [ci]] ++ dd 62, boxes := [(5, 51, [ci, ci, ci, CS.sl kSgm, CS.sl kPt]), (20000, 22, [ci, ci, ci]), (20001, 3, [ci]), (20002, 55, [ci, ci, ci, ci, ci, ci, ci, ci, ci, CS.sl kInts, ci, ci, ci, ci, ci, ci, ci, ci, ci, CS.sl kInts, ci, ci, ci, ci, ci, ci, ci, ci, ci, CS.sl kInts]), (20003, 115, [CS.clo 83 [] [(20004, 0)]]), (20004, 61, [CS.own 20000 10, ci, ci, ci, ci, ci])], rows := [(11, 3, kInts), (20000, 114, kPce)] }
def ex_track_each_10 : List (Ex × Sk) := [(Ex.exit 2, { tmps := [td] ++ dd 101, boxes := [(20000, 22, [ci, ci, ci]), (20001, 3, [ci]), (20002, 55, [ci, ci, ci, ci, ci, ci, ci, ci, ci, CS.sl kInts, ci, ci, ci, ci, ci, ci, ci, ci, ci, CS.sl kInts, ci, ci, ci, ci, ci, ci, ci, ci, ci, CS.sl kInts]), (20003, 115, [CS.clo 83 [] [(20004, 0)]]), (20004, 61, [CS.own 20000 10, ci, ci, ci, ci, ci])], rows := [(20000, 114, kPce)] })]
def st_track_each_10 (M_track_Leg_2 : Fn) (N4 : Lp) : Lp := stepL Try.prog (C_track_each_1 M_track_Leg_2 N4) 64 10 (bodyOf Try.prog 87 10) sk_track_each_10 ex_track_each_10
def C_track_each_2 (M_track_Leg_2 : Fn) (N4 N10 : Lp) : Cfg := (C_track_each_1 M_track_Leg_2 N4).loop 10 sk_track_each_10 ex_track_each_10 N10
def mf_track_each (M_track_Leg_2 : Fn) (N4 N10 : Lp) : Fn := modelF Try.prog (C_track_each_2 M_track_Leg_2 N4 N10) 64 87 sig_track_each osig_track_each
theorem st_track_each_4_eq (M_track_Leg_2 : Fn) (v0 v1 : Rw) (v2 v3 v4 v5 : Int) (v6 : Rw) (v7 v8 v9 v10 v11 : Int) (v12 v13 : Rw) (v14 v15 v16 v17 v18 v19 v20 v21 v22 v23 v24 v25 v26 : Int) (v27 : Rw) (v28 v29 v30 v31 v32 v33 v34 v35 v36 : Int) (v37 : Rw) (v38 v39 v40 v41 v42 v43 v44 v45 v46 : Int) (v47 : Rw) (v48 v49 v50 v51 v52 : Int) : st_track_each_4 M_track_Leg_2 [.view kInts v0, .view kPce v1, I v2, I v3, I v4, I v5, .view kSgm v6, I v7, I v8, I v9, I v10, I v11, .view kSgm v12, .view kPt v13, I v14, I v15, I v16, I v17, I v18, I v19, I v20, I v21, I v22, I v23, I v24, I v25, I v26, .view kInts v27, I v28, I v29, I v30, I v31, I v32, I v33, I v34, I v35, I v36, .view kInts v37, I v38, I v39, I v40, I v41, I v42, I v43, I v44, I v45, I v46, .view kInts v47, I v48, I v49, I v50, I v51, I v52] =
 bif decide (v8 < v7) then
 bif decide (0 <= v8) && decide (v8 < (v6.length : Int)) then
 bif ((v0 ++ [[I v5]]).length * 8).ble 140737488355328 then
 some (0, [.view kInts (v0 ++ [[I v5]]), .view kPce v1, I v2, I v3, I v4, I (IntKind.i64.wrap (v5 + gA (nth [] v6 v8.toNat) 3)), .view kSgm v6, I v7, I (IntKind.i64.wrap (v8 + 1)), I v9, I v10, I v11, .view kSgm v12, .view kPt v13, I v14, I v15, I v16, I v17, I v18, I v19, I v20, I v21, I v22, I v23, I v24, I v25, I v26, .view kInts v27, I v28, I v29, I v30, I v31, I v32, I v33, I v34, I v35, I v36, .view kInts v37, I v38, I v39, I v40, I v41, I v42, I v43, I v44, I v45, I v46, .view kInts v47, I v48, I v49, I v50, I v51, I v52])
 else
 none
 else
 none
 else
 some (1, [.view kInts v0, .view kPce v1, I v2, I v3, I v4, I v9, I v10, I v11, .view kSgm v12, .view kPt v13, I v14, I v15, I v16, I v17, I v18, I v19, I v20, I v21, I v22, I v23, I v24, I v25, I v26, .view kInts v27, I v28, I v29, I v30, I v31, I v32, I v33, I v34, I v35, I v36, .view kInts v37, I v38, I v39, I v40, I v41, I v42, I v43, I v44, I v45, I v46, .view kInts v47, I v48, I v49, I v50, I v51, I v52]) := by kernel_rfl
theorem st_track_each_10_eq (M_track_Leg_2 : Fn) (N4 : Lp) (v0 v1 : Rw) (v2 v3 v4 v5 v6 v7 v8 v9 : Int) (v10 v11 : Rw) (v12 v13 v14 v15 v16 v17 v18 v19 v20 v21 v22 v23 v24 : Int) (v25 : Rw) (v26 v27 v28 v29 v30 v31 v32 v33 v34 : Int) (v35 : Rw) (v36 v37 v38 v39 v40 v41 v42 v43 v44 : Int) (v45 : Rw) (v46 v47 v48 v49 v50 : Int) : st_track_each_10 M_track_Leg_2 N4 [.view kInts v0, .view kPce v1, I v2, I v3, I v4, I v5, I v6, I v7, I v8, I v9, .view kSgm v10, .view kPt v11, I v12, I v13, I v14, I v15, I v16, I v17, I v18, I v19, I v20, I v21, I v22, I v23, I v24, .view kInts v25, I v26, I v27, I v28, I v29, I v30, I v31, I v32, I v33, I v34, .view kInts v35, I v36, I v37, I v38, I v39, I v40, I v41, I v42, I v43, I v44, .view kInts v45, I v46, I v47, I v48, I v49, I v50] =
 bif decide (v6 < v5) then
 bif decide (v4 < 0) then
 bif decide (0 <= IntKind.i64.wrap (IntKind.i64.wrap ((v10.length : Int) - 1) - v6)) && decide (IntKind.i64.wrap (IntKind.i64.wrap ((v10.length : Int) - 1) - v6) < (v0.length : Int)) then
 bif decide (0 <= IntKind.i64.wrap (IntKind.i64.wrap ((v10.length : Int) - 1) - v6)) && decide (IntKind.i64.wrap (IntKind.i64.wrap ((v10.length : Int) - 1) - v6) < (v0.length : Int)) then
 bif decide (0 <= IntKind.i64.wrap (IntKind.i64.wrap ((v10.length : Int) - 1) - v6)) && decide (IntKind.i64.wrap (IntKind.i64.wrap ((v10.length : Int) - 1) - v6) < (v10.length : Int)) then
 bif decide (mx (intOf (nth .dead (nth [] v0 (IntKind.i64.wrap (IntKind.i64.wrap ((v10.length : Int) - 1) - v6)).toNat) 0)) v2 >= mn (IntKind.i64.wrap (intOf (nth .dead (nth [] v0 (IntKind.i64.wrap (IntKind.i64.wrap ((v10.length : Int) - 1) - v6)).toNat) 0) + intOf (nth .dead (nth [] v10 (IntKind.i64.wrap (IntKind.i64.wrap ((v10.length : Int) - 1) - v6)).toNat) 3))) v3) then
 some (0, [.view kInts v0, .view kPce v1, I v2, I v3, I v4, I v5, I (IntKind.i64.wrap (v6 + 1)), I v7, I v8, I v9, .view kSgm v10, .view kPt v11, I v12, I v13, I v14, I v15, I v16, I v17, I v18, I v19, I v20, I v21, I v22, I v23, I v24, .view kInts v25, I v26, I v27, I v28, I v29, I v30, I v31, I v32, I v33, I v34, .view kInts v35, I v36, I v37, I v38, I v39, I v40, I v41, I v42, I v43, I v44, .view kInts v45, I v46, I v47, I v48, I v49, I v50])
 else
 bif decide (IntKind.i64.wrap (IntKind.i64.wrap ((v10.length : Int) - 1) - v6) > 0) then
 bif decide (0 <= IntKind.i64.wrap (IntKind.i64.wrap (IntKind.i64.wrap ((v10.length : Int) - 1) - v6) - 1)) && decide (IntKind.i64.wrap (IntKind.i64.wrap (IntKind.i64.wrap ((v10.length : Int) - 1) - v6) - 1) < (v10.length : Int)) then
 bif decide (v4 < 0) then
 bif decide (0 <= IntKind.i64.wrap (IntKind.i64.wrap ((v10.length : Int) - 1) - v6)) && decide (IntKind.i64.wrap (IntKind.i64.wrap ((v10.length : Int) - 1) - v6) < (v10.length : Int)) then
 (M_track_Leg_2 [.view kPce v1, I (intOf (nth .dead (nth [] v10 (IntKind.i64.wrap (IntKind.i64.wrap (IntKind.i64.wrap ((v10.length : Int) - 1) - v6) - 1)).toNat) 0)), I (intOf (nth .dead (nth [] v10 (IntKind.i64.wrap (IntKind.i64.wrap (IntKind.i64.wrap ((v10.length : Int) - 1) - v6) - 1)).toNat) 1)), I (intOf (nth .dead (nth [] v10 (IntKind.i64.wrap (IntKind.i64.wrap (IntKind.i64.wrap ((v10.length : Int) - 1) - v6) - 1)).toNat) 2)), I (intOf (nth .dead (nth [] v10 (IntKind.i64.wrap (IntKind.i64.wrap ((v10.length : Int) - 1) - v6)).toNat) 0)), I (intOf (nth .dead (nth [] v10 (IntKind.i64.wrap (IntKind.i64.wrap ((v10.length : Int) - 1) - v6)).toNat) 1)), I (intOf (nth .dead (nth [] v10 (IntKind.i64.wrap (IntKind.i64.wrap ((v10.length : Int) - 1) - v6)).toNat) 2)), I (mn (IntKind.i64.wrap (intOf (nth .dead (nth [] v0 (IntKind.i64.wrap (IntKind.i64.wrap ((v10.length : Int) - 1) - v6)).toNat) 0) + intOf (nth .dead (nth [] v10 (IntKind.i64.wrap (IntKind.i64.wrap ((v10.length : Int) - 1) - v6)).toNat) 3))) v3), I (IntKind.i64.wrap (mn (IntKind.i64.wrap (intOf (nth .dead (nth [] v0 (IntKind.i64.wrap (IntKind.i64.wrap ((v10.length : Int) - 1) - v6)).toNat) 0) + intOf (nth .dead (nth [] v10 (IntKind.i64.wrap (IntKind.i64.wrap ((v10.length : Int) - 1) - v6)).toNat) 3))) v3 - mx (intOf (nth .dead (nth [] v0 (IntKind.i64.wrap (IntKind.i64.wrap ((v10.length : Int) - 1) - v6)).toNat) 0)) v2)), I v12, I v13, I v14, I v15, I v16, I v17, I v18, I v19, I v20, I v21, I v22, I v23, I v24, .view kInts v25, I v26, I v27, I v28, I v29, I v30, I v31, I v32, I v33, I v34, .view kInts v35, I v36, I v37, I v38, I v39, I v40, I v41, I v42, I v43, I v44, .view kInts v45, I v46, I v47, I v48, I v49, I v50]).bind fun o11 =>
 some (0, [.view kInts v0, .view kPce (wA o11 0), I v2, I v3, I v4, I v5, I (IntKind.i64.wrap (v6 + 1)), I v7, I v8, I v9, .view kSgm v10, .view kPt v11, jA o11 1, jA o11 2, jA o11 3, jA o11 4, jA o11 5, jA o11 6, jA o11 7, jA o11 8, jA o11 9, jA o11 10, jA o11 11, jA o11 12, jA o11 13, .view kInts (wA o11 14), jA o11 15, jA o11 16, jA o11 17, jA o11 18, jA o11 19, jA o11 20, jA o11 21, jA o11 22, jA o11 23, .view kInts (wA o11 24), jA o11 25, jA o11 26, jA o11 27, jA o11 28, jA o11 29, jA o11 30, jA o11 31, jA o11 32, jA o11 33, .view kInts (wA o11 34), jA o11 35, jA o11 36, jA o11 37, jA o11 38, jA o11 39])
 else
 none
 else
 bif decide (0 <= IntKind.i64.wrap (IntKind.i64.wrap ((v10.length : Int) - 1) - v6)) && decide (IntKind.i64.wrap (IntKind.i64.wrap ((v10.length : Int) - 1) - v6) < (v10.length : Int)) then
 (M_track_Leg_2 [.view kPce v1, I (intOf (nth .dead (nth [] v10 (IntKind.i64.wrap (IntKind.i64.wrap (IntKind.i64.wrap ((v10.length : Int) - 1) - v6) - 1)).toNat) 0)), I (intOf (nth .dead (nth [] v10 (IntKind.i64.wrap (IntKind.i64.wrap (IntKind.i64.wrap ((v10.length : Int) - 1) - v6) - 1)).toNat) 1)), I (intOf (nth .dead (nth [] v10 (IntKind.i64.wrap (IntKind.i64.wrap (IntKind.i64.wrap ((v10.length : Int) - 1) - v6) - 1)).toNat) 2)), I (intOf (nth .dead (nth [] v10 (IntKind.i64.wrap (IntKind.i64.wrap ((v10.length : Int) - 1) - v6)).toNat) 0)), I (intOf (nth .dead (nth [] v10 (IntKind.i64.wrap (IntKind.i64.wrap ((v10.length : Int) - 1) - v6)).toNat) 1)), I (intOf (nth .dead (nth [] v10 (IntKind.i64.wrap (IntKind.i64.wrap ((v10.length : Int) - 1) - v6)).toNat) 2)), I (mx (intOf (nth .dead (nth [] v0 (IntKind.i64.wrap (IntKind.i64.wrap ((v10.length : Int) - 1) - v6)).toNat) 0)) v2), I (IntKind.i64.wrap (mn (IntKind.i64.wrap (intOf (nth .dead (nth [] v0 (IntKind.i64.wrap (IntKind.i64.wrap ((v10.length : Int) - 1) - v6)).toNat) 0) + intOf (nth .dead (nth [] v10 (IntKind.i64.wrap (IntKind.i64.wrap ((v10.length : Int) - 1) - v6)).toNat) 3))) v3 - mx (intOf (nth .dead (nth [] v0 (IntKind.i64.wrap (IntKind.i64.wrap ((v10.length : Int) - 1) - v6)).toNat) 0)) v2)), I v12, I v13, I v14, I v15, I v16, I v17, I v18, I v19, I v20, I v21, I v22, I v23, I v24, .view kInts v25, I v26, I v27, I v28, I v29, I v30, I v31, I v32, I v33, I v34, .view kInts v35, I v36, I v37, I v38, I v39, I v40, I v41, I v42, I v43, I v44, .view kInts v45, I v46, I v47, I v48, I v49, I v50]).bind fun o12 =>
 some (0, [.view kInts v0, .view kPce (wA o12 0), I v2, I v3, I v4, I v5, I (IntKind.i64.wrap (v6 + 1)), I v7, I v8, I v9, .view kSgm v10, .view kPt v11, jA o12 1, jA o12 2, jA o12 3, jA o12 4, jA o12 5, jA o12 6, jA o12 7, jA o12 8, jA o12 9, jA o12 10, jA o12 11, jA o12 12, jA o12 13, .view kInts (wA o12 14), jA o12 15, jA o12 16, jA o12 17, jA o12 18, jA o12 19, jA o12 20, jA o12 21, jA o12 22, jA o12 23, .view kInts (wA o12 24), jA o12 25, jA o12 26, jA o12 27, jA o12 28, jA o12 29, jA o12 30, jA o12 31, jA o12 32, jA o12 33, .view kInts (wA o12 34), jA o12 35, jA o12 36, jA o12 37, jA o12 38, jA o12 39])
 else
 none
 else
 none
 else
 bif decide (v4 < 0) then
 bif decide (0 <= IntKind.i64.wrap (IntKind.i64.wrap ((v10.length : Int) - 1) - v6)) && decide (IntKind.i64.wrap (IntKind.i64.wrap ((v10.length : Int) - 1) - v6) < (v10.length : Int)) then
 (M_track_Leg_2 [.view kPce v1, I v7, I v8, I v9, I (intOf (nth .dead (nth [] v10 (IntKind.i64.wrap (IntKind.i64.wrap ((v10.length : Int) - 1) - v6)).toNat) 0)), I (intOf (nth .dead (nth [] v10 (IntKind.i64.wrap (IntKind.i64.wrap ((v10.length : Int) - 1) - v6)).toNat) 1)), I (intOf (nth .dead (nth [] v10 (IntKind.i64.wrap (IntKind.i64.wrap ((v10.length : Int) - 1) - v6)).toNat) 2)), I (mn (IntKind.i64.wrap (intOf (nth .dead (nth [] v0 (IntKind.i64.wrap (IntKind.i64.wrap ((v10.length : Int) - 1) - v6)).toNat) 0) + intOf (nth .dead (nth [] v10 (IntKind.i64.wrap (IntKind.i64.wrap ((v10.length : Int) - 1) - v6)).toNat) 3))) v3), I (IntKind.i64.wrap (mn (IntKind.i64.wrap (intOf (nth .dead (nth [] v0 (IntKind.i64.wrap (IntKind.i64.wrap ((v10.length : Int) - 1) - v6)).toNat) 0) + intOf (nth .dead (nth [] v10 (IntKind.i64.wrap (IntKind.i64.wrap ((v10.length : Int) - 1) - v6)).toNat) 3))) v3 - mx (intOf (nth .dead (nth [] v0 (IntKind.i64.wrap (IntKind.i64.wrap ((v10.length : Int) - 1) - v6)).toNat) 0)) v2)), I v12, I v13, I v14, I v15, I v16, I v17, I v18, I v19, I v20, I v21, I v22, I v23, I v24, .view kInts v25, I v26, I v27, I v28, I v29, I v30, I v31, I v32, I v33, I v34, .view kInts v35, I v36, I v37, I v38, I v39, I v40, I v41, I v42, I v43, I v44, .view kInts v45, I v46, I v47, I v48, I v49, I v50]).bind fun o13 =>
 some (0, [.view kInts v0, .view kPce (wA o13 0), I v2, I v3, I v4, I v5, I (IntKind.i64.wrap (v6 + 1)), I v7, I v8, I v9, .view kSgm v10, .view kPt v11, jA o13 1, jA o13 2, jA o13 3, jA o13 4, jA o13 5, jA o13 6, jA o13 7, jA o13 8, jA o13 9, jA o13 10, jA o13 11, jA o13 12, jA o13 13, .view kInts (wA o13 14), jA o13 15, jA o13 16, jA o13 17, jA o13 18, jA o13 19, jA o13 20, jA o13 21, jA o13 22, jA o13 23, .view kInts (wA o13 24), jA o13 25, jA o13 26, jA o13 27, jA o13 28, jA o13 29, jA o13 30, jA o13 31, jA o13 32, jA o13 33, .view kInts (wA o13 34), jA o13 35, jA o13 36, jA o13 37, jA o13 38, jA o13 39])
 else
 none
 else
 bif decide (0 <= IntKind.i64.wrap (IntKind.i64.wrap ((v10.length : Int) - 1) - v6)) && decide (IntKind.i64.wrap (IntKind.i64.wrap ((v10.length : Int) - 1) - v6) < (v10.length : Int)) then
 (M_track_Leg_2 [.view kPce v1, I v7, I v8, I v9, I (intOf (nth .dead (nth [] v10 (IntKind.i64.wrap (IntKind.i64.wrap ((v10.length : Int) - 1) - v6)).toNat) 0)), I (intOf (nth .dead (nth [] v10 (IntKind.i64.wrap (IntKind.i64.wrap ((v10.length : Int) - 1) - v6)).toNat) 1)), I (intOf (nth .dead (nth [] v10 (IntKind.i64.wrap (IntKind.i64.wrap ((v10.length : Int) - 1) - v6)).toNat) 2)), I (mx (intOf (nth .dead (nth [] v0 (IntKind.i64.wrap (IntKind.i64.wrap ((v10.length : Int) - 1) - v6)).toNat) 0)) v2), I (IntKind.i64.wrap (mn (IntKind.i64.wrap (intOf (nth .dead (nth [] v0 (IntKind.i64.wrap (IntKind.i64.wrap ((v10.length : Int) - 1) - v6)).toNat) 0) + intOf (nth .dead (nth [] v10 (IntKind.i64.wrap (IntKind.i64.wrap ((v10.length : Int) - 1) - v6)).toNat) 3))) v3 - mx (intOf (nth .dead (nth [] v0 (IntKind.i64.wrap (IntKind.i64.wrap ((v10.length : Int) - 1) - v6)).toNat) 0)) v2)), I v12, I v13, I v14, I v15, I v16, I v17, I v18, I v19, I v20, I v21, I v22, I v23, I v24, .view kInts v25, I v26, I v27, I v28, I v29, I v30, I v31, I v32, I v33, I v34, .view kInts v35, I v36, I v37, I v38, I v39, I v40, I v41, I v42, I v43, I v44, .view kInts v45, I v46, I v47, I v48, I v49, I v50]).bind fun o14 =>
 some (0, [.view kInts v0, .view kPce (wA o14 0), I v2, I v3, I v4, I v5, I (IntKind.i64.wrap (v6 + 1)), I v7, I v8, I v9, .view kSgm v10, .view kPt v11, jA o14 1, jA o14 2, jA o14 3, jA o14 4, jA o14 5, jA o14 6, jA o14 7, jA o14 8, jA o14 9, jA o14 10, jA o14 11, jA o14 12, jA o14 13, .view kInts (wA o14 14), jA o14 15, jA o14 16, jA o14 17, jA o14 18, jA o14 19, jA o14 20, jA o14 21, jA o14 22, jA o14 23, .view kInts (wA o14 24), jA o14 25, jA o14 26, jA o14 27, jA o14 28, jA o14 29, jA o14 30, jA o14 31, jA o14 32, jA o14 33, .view kInts (wA o14 34), jA o14 35, jA o14 36, jA o14 37, jA o14 38, jA o14 39])
 else
 none
 else
 none
 else
 none
 else
 none
 else
 bif decide (0 <= v6) && decide (v6 < (v0.length : Int)) then
 bif decide (0 <= v6) && decide (v6 < (v0.length : Int)) then
 bif decide (0 <= v6) && decide (v6 < (v10.length : Int)) then
 bif decide (mx (gA (nth [] v0 v6.toNat) 0) v2 >= mn (IntKind.i64.wrap (gA (nth [] v0 v6.toNat) 0 + gA (nth [] v10 v6.toNat) 3)) v3) then
 some (0, [.view kInts v0, .view kPce v1, I v2, I v3, I v4, I v5, I (IntKind.i64.wrap (v6 + 1)), I v7, I v8, I v9, .view kSgm v10, .view kPt v11, I v12, I v13, I v14, I v15, I v16, I v17, I v18, I v19, I v20, I v21, I v22, I v23, I v24, .view kInts v25, I v26, I v27, I v28, I v29, I v30, I v31, I v32, I v33, I v34, .view kInts v35, I v36, I v37, I v38, I v39, I v40, I v41, I v42, I v43, I v44, .view kInts v45, I v46, I v47, I v48, I v49, I v50])
 else
 bif decide (v6 > 0) then
 bif decide (0 <= IntKind.i64.wrap (v6 - 1)) && decide (IntKind.i64.wrap (v6 - 1) < (v10.length : Int)) then
 bif decide (v4 < 0) then
 bif decide (0 <= v6) && decide (v6 < (v10.length : Int)) then
 (M_track_Leg_2 [.view kPce v1, jA (nth [] v10 (IntKind.i64.wrap (v6 - 1)).toNat) 0, jA (nth [] v10 (IntKind.i64.wrap (v6 - 1)).toNat) 1, jA (nth [] v10 (IntKind.i64.wrap (v6 - 1)).toNat) 2, jA (nth [] v10 v6.toNat) 0, jA (nth [] v10 v6.toNat) 1, jA (nth [] v10 v6.toNat) 2, I (mn (IntKind.i64.wrap (gA (nth [] v0 v6.toNat) 0 + gA (nth [] v10 v6.toNat) 3)) v3), I (IntKind.i64.wrap (mn (IntKind.i64.wrap (gA (nth [] v0 v6.toNat) 0 + gA (nth [] v10 v6.toNat) 3)) v3 - mx (gA (nth [] v0 v6.toNat) 0) v2)), I v12, I v13, I v14, I v15, I v16, I v17, I v18, I v19, I v20, I v21, I v22, I v23, I v24, .view kInts v25, I v26, I v27, I v28, I v29, I v30, I v31, I v32, I v33, I v34, .view kInts v35, I v36, I v37, I v38, I v39, I v40, I v41, I v42, I v43, I v44, .view kInts v45, I v46, I v47, I v48, I v49, I v50]).bind fun o15 =>
 some (0, [.view kInts v0, .view kPce (wA o15 0), I v2, I v3, I v4, I v5, I (IntKind.i64.wrap (v6 + 1)), I v7, I v8, I v9, .view kSgm v10, .view kPt v11, jA o15 1, jA o15 2, jA o15 3, jA o15 4, jA o15 5, jA o15 6, jA o15 7, jA o15 8, jA o15 9, jA o15 10, jA o15 11, jA o15 12, jA o15 13, .view kInts (wA o15 14), jA o15 15, jA o15 16, jA o15 17, jA o15 18, jA o15 19, jA o15 20, jA o15 21, jA o15 22, jA o15 23, .view kInts (wA o15 24), jA o15 25, jA o15 26, jA o15 27, jA o15 28, jA o15 29, jA o15 30, jA o15 31, jA o15 32, jA o15 33, .view kInts (wA o15 34), jA o15 35, jA o15 36, jA o15 37, jA o15 38, jA o15 39])
 else
 none
 else
 bif decide (0 <= v6) && decide (v6 < (v10.length : Int)) then
 (M_track_Leg_2 [.view kPce v1, jA (nth [] v10 (IntKind.i64.wrap (v6 - 1)).toNat) 0, jA (nth [] v10 (IntKind.i64.wrap (v6 - 1)).toNat) 1, jA (nth [] v10 (IntKind.i64.wrap (v6 - 1)).toNat) 2, jA (nth [] v10 v6.toNat) 0, jA (nth [] v10 v6.toNat) 1, jA (nth [] v10 v6.toNat) 2, I (mx (gA (nth [] v0 v6.toNat) 0) v2), I (IntKind.i64.wrap (mn (IntKind.i64.wrap (gA (nth [] v0 v6.toNat) 0 + gA (nth [] v10 v6.toNat) 3)) v3 - mx (gA (nth [] v0 v6.toNat) 0) v2)), I v12, I v13, I v14, I v15, I v16, I v17, I v18, I v19, I v20, I v21, I v22, I v23, I v24, .view kInts v25, I v26, I v27, I v28, I v29, I v30, I v31, I v32, I v33, I v34, .view kInts v35, I v36, I v37, I v38, I v39, I v40, I v41, I v42, I v43, I v44, .view kInts v45, I v46, I v47, I v48, I v49, I v50]).bind fun o16 =>
 some (0, [.view kInts v0, .view kPce (wA o16 0), I v2, I v3, I v4, I v5, I (IntKind.i64.wrap (v6 + 1)), I v7, I v8, I v9, .view kSgm v10, .view kPt v11, jA o16 1, jA o16 2, jA o16 3, jA o16 4, jA o16 5, jA o16 6, jA o16 7, jA o16 8, jA o16 9, jA o16 10, jA o16 11, jA o16 12, jA o16 13, .view kInts (wA o16 14), jA o16 15, jA o16 16, jA o16 17, jA o16 18, jA o16 19, jA o16 20, jA o16 21, jA o16 22, jA o16 23, .view kInts (wA o16 24), jA o16 25, jA o16 26, jA o16 27, jA o16 28, jA o16 29, jA o16 30, jA o16 31, jA o16 32, jA o16 33, .view kInts (wA o16 34), jA o16 35, jA o16 36, jA o16 37, jA o16 38, jA o16 39])
 else
 none
 else
 none
 else
 bif decide (v4 < 0) then
 bif decide (0 <= v6) && decide (v6 < (v10.length : Int)) then
 (M_track_Leg_2 [.view kPce v1, I v7, I v8, I v9, jA (nth [] v10 v6.toNat) 0, jA (nth [] v10 v6.toNat) 1, jA (nth [] v10 v6.toNat) 2, I (mn (IntKind.i64.wrap (gA (nth [] v0 v6.toNat) 0 + gA (nth [] v10 v6.toNat) 3)) v3), I (IntKind.i64.wrap (mn (IntKind.i64.wrap (gA (nth [] v0 v6.toNat) 0 + gA (nth [] v10 v6.toNat) 3)) v3 - mx (gA (nth [] v0 v6.toNat) 0) v2)), I v12, I v13, I v14, I v15, I v16, I v17, I v18, I v19, I v20, I v21, I v22, I v23, I v24, .view kInts v25, I v26, I v27, I v28, I v29, I v30, I v31, I v32, I v33, I v34, .view kInts v35, I v36, I v37, I v38, I v39, I v40, I v41, I v42, I v43, I v44, .view kInts v45, I v46, I v47, I v48, I v49, I v50]).bind fun o17 =>
 some (0, [.view kInts v0, .view kPce (wA o17 0), I v2, I v3, I v4, I v5, I (IntKind.i64.wrap (v6 + 1)), I v7, I v8, I v9, .view kSgm v10, .view kPt v11, jA o17 1, jA o17 2, jA o17 3, jA o17 4, jA o17 5, jA o17 6, jA o17 7, jA o17 8, jA o17 9, jA o17 10, jA o17 11, jA o17 12, jA o17 13, .view kInts (wA o17 14), jA o17 15, jA o17 16, jA o17 17, jA o17 18, jA o17 19, jA o17 20, jA o17 21, jA o17 22, jA o17 23, .view kInts (wA o17 24), jA o17 25, jA o17 26, jA o17 27, jA o17 28, jA o17 29, jA o17 30, jA o17 31, jA o17 32, jA o17 33, .view kInts (wA o17 34), jA o17 35, jA o17 36, jA o17 37, jA o17 38, jA o17 39])
 else
 none
 else
 bif decide (0 <= v6) && decide (v6 < (v10.length : Int)) then
 (M_track_Leg_2 [.view kPce v1, I v7, I v8, I v9, jA (nth [] v10 v6.toNat) 0, jA (nth [] v10 v6.toNat) 1, jA (nth [] v10 v6.toNat) 2, I (mx (gA (nth [] v0 v6.toNat) 0) v2), I (IntKind.i64.wrap (mn (IntKind.i64.wrap (gA (nth [] v0 v6.toNat) 0 + gA (nth [] v10 v6.toNat) 3)) v3 - mx (gA (nth [] v0 v6.toNat) 0) v2)), I v12, I v13, I v14, I v15, I v16, I v17, I v18, I v19, I v20, I v21, I v22, I v23, I v24, .view kInts v25, I v26, I v27, I v28, I v29, I v30, I v31, I v32, I v33, I v34, .view kInts v35, I v36, I v37, I v38, I v39, I v40, I v41, I v42, I v43, I v44, .view kInts v45, I v46, I v47, I v48, I v49, I v50]).bind fun o18 =>
 some (0, [.view kInts v0, .view kPce (wA o18 0), I v2, I v3, I v4, I v5, I (IntKind.i64.wrap (v6 + 1)), I v7, I v8, I v9, .view kSgm v10, .view kPt v11, jA o18 1, jA o18 2, jA o18 3, jA o18 4, jA o18 5, jA o18 6, jA o18 7, jA o18 8, jA o18 9, jA o18 10, jA o18 11, jA o18 12, jA o18 13, .view kInts (wA o18 14), jA o18 15, jA o18 16, jA o18 17, jA o18 18, jA o18 19, jA o18 20, jA o18 21, jA o18 22, jA o18 23, .view kInts (wA o18 24), jA o18 25, jA o18 26, jA o18 27, jA o18 28, jA o18 29, jA o18 30, jA o18 31, jA o18 32, jA o18 33, .view kInts (wA o18 34), jA o18 35, jA o18 36, jA o18 37, jA o18 38, jA o18 39])
 else
 none
 else
 none
 else
 none
 else
 none
 else
 some (1, [.view kPce v1, I v12, I v13, I v14, I v15, I v16, I v17, I v18, I v19, I v20, I v21, I v22, I v23, I v24, .view kInts v25, I v26, I v27, I v28, I v29, I v30, I v31, I v32, I v33, I v34, .view kInts v35, I v36, I v37, I v38, I v39, I v40, I v41, I v42, I v43, I v44, .view kInts v45, I v46, I v47, I v48, I v49, I v50]) := by kernel_rfl
theorem mf_track_each_eq (M_track_Leg_2 : Fn) (N4 N10 : Lp) (x0 : Rw) (x1 x2 x3 : Int) (x4 x5 : Rw) (x6 x7 x8 x9 x10 x11 x12 x13 x14 x15 x16 x17 x18 x19 x20 x21 : Int) (x22 : Rw) (x23 x24 x25 x26 x27 x28 x29 x30 x31 : Int) (x32 : Rw) (x33 x34 x35 x36 x37 x38 x39 x40 x41 : Int) (x42 : Rw) (x43 x44 x45 x46 x47 : Int) : mf_track_each M_track_Leg_2 N4 N10 [.view kPce x0, I x1, I x2, I x3, .view kSgm x4, .view kPt x5, I x6, I x7, I x8, I x9, I x10, I x11, I x12, I x13, I x14, I x15, I x16, I x17, I x18, I x19, I x20, I x21, .view kInts x22, I x23, I x24, I x25, I x26, I x27, I x28, I x29, I x30, I x31, .view kInts x32, I x33, I x34, I x35, I x36, I x37, I x38, I x39, I x40, I x41, .view kInts x42, I x43, I x44, I x45, I x46, I x47] =
 (N4 [.view kInts [], .view kPce x0, I x6, I x7, I x8, I 0, .view kSgm x4, I (x4.length : Int), I 0, I x1, I x2, I x3, .view kSgm x4, .view kPt x5, I x9, I x10, I x11, I x12, I x13, I x14, I x15, I x16, I x17, I x18, I x19, I x20, I x21, .view kInts x22, I x23, I x24, I x25, I x26, I x27, I x28, I x29, I x30, I x31, .view kInts x32, I x33, I x34, I x35, I x36, I x37, I x38, I x39, I x40, I x41, .view kInts x42, I x43, I x44, I x45, I x46, I x47]).bind fun o19 =>
 bif o19.1.beq 1 then
 (N10 [.view kInts (wA o19.2 0), .view kPce (wA o19.2 1), jA o19.2 2, jA o19.2 3, jA o19.2 4, I (↑(wA o19.2 8).length : Int), I 0, jA o19.2 5, jA o19.2 6, jA o19.2 7, .view kSgm (wA o19.2 8), .view kPt (wA o19.2 9), jA o19.2 10, jA o19.2 11, jA o19.2 12, jA o19.2 13, jA o19.2 14, jA o19.2 15, jA o19.2 16, jA o19.2 17, jA o19.2 18, jA o19.2 19, jA o19.2 20, jA o19.2 21, jA o19.2 22, .view kInts (wA o19.2 23), jA o19.2 24, jA o19.2 25, jA o19.2 26, jA o19.2 27, jA o19.2 28, jA o19.2 29, jA o19.2 30, jA o19.2 31, jA o19.2 32, .view kInts (wA o19.2 33), jA o19.2 34, jA o19.2 35, jA o19.2 36, jA o19.2 37, jA o19.2 38, jA o19.2 39, jA o19.2 40, jA o19.2 41, jA o19.2 42, .view kInts (wA o19.2 43), jA o19.2 44, jA o19.2 45, jA o19.2 46, jA o19.2 47, jA o19.2 48]).bind fun o20 =>
 bif o20.1.beq 1 then
 some [.view kPce (wA o20.2 0), jA o20.2 1, jA o20.2 2, jA o20.2 3, jA o20.2 4, jA o20.2 5, jA o20.2 6, jA o20.2 7, jA o20.2 8, jA o20.2 9, jA o20.2 10, jA o20.2 11, jA o20.2 12, jA o20.2 13, .view kInts (wA o20.2 14), jA o20.2 15, jA o20.2 16, jA o20.2 17, jA o20.2 18, jA o20.2 19, jA o20.2 20, jA o20.2 21, jA o20.2 22, jA o20.2 23, .view kInts (wA o20.2 24), jA o20.2 25, jA o20.2 26, jA o20.2 27, jA o20.2 28, jA o20.2 29, jA o20.2 30, jA o20.2 31, jA o20.2 32, jA o20.2 33, .view kInts (wA o20.2 34), jA o20.2 35, jA o20.2 36, jA o20.2 37, jA o20.2 38, jA o20.2 39]
 else
 none
 else
 none := by kernel_rfl
def l_track_each_4 := loopC (st_track_each_4 m_track_Leg_2 )
def l_track_each_10 := loopC (st_track_each_10 m_track_Leg_2 l_track_each_4)
def m_track_each := mf_track_each m_track_Leg_2 l_track_each_4 l_track_each_10
theorem sp_track_each : SpecOK Try.prog (C_track_each_0 m_track_Leg_2) := specOK_of rfl ⟨r_track_Leg_2, trivial⟩
theorem r_track_each : RowOK Try.prog (87, spOf sig_track_each osig_track_each m_track_each) := row_of (C := (C_track_each_2 m_track_Leg_2 l_track_each_4 l_track_each_10)) (L := 64) (by kernel_rfl) (((FnOK.bare rfl rfl rfl).loop sp_track_each eqOk mixOk (by kernel_rfl) (by kernel_rfl)).loop sp_track_each eqOk mixOk (by kernel_rfl) (by kernel_rfl)) sp_track_each eqOk mixOk (by kernel_rfl) (by kernel_rfl)
def sig_path_Length : Sk := { tmps := [TS.v true [ci, ci, ci, CS.sl kSgm, CS.sl kPt]], boxes := [], rows := [] }
def osig_path_Length : Sk := { tmps := [tf [ci]], boxes := [], rows := [] }
def C_path_Length_0 : Cfg := { spec := lookS [], eqOk := eqAll, ownOff := ownOff }
def sk_path_Length_3 : Sk := { tmps := [td, td, td, tf [ci], td, td, td, tf [CS.sl kSgm], tf [ci], tf [ci]] ++ dd 9, boxes := [], rows := [] }
def ex_path_Length_3 : List (Ex × Sk) := [(Ex.exit 0, { tmps := [td, td, td, tf [ci]] ++ dd 15, boxes := [], rows := [] })]
def st_path_Length_3 : Lp := stepL Try.prog C_path_Length_0 64 3 (bodyOf Try.prog 46 3) sk_path_Length_3 ex_path_Length_3
def C_path_Length_1 (N3 : Lp) : Cfg := C_path_Length_0.loop 3 sk_path_Length_3 ex_path_Length_3 N3
def mf_path_Length (N3 : Lp) : Fn := modelF Try.prog (C_path_Length_1 N3) 64 46 sig_path_Length osig_path_Length
theorem st_path_Length_3_eq (v0 : Int) (v1 : Rw) (v2 v3 : Int) : st_path_Length_3 [I v0, .view kSgm v1, I v2, I v3] =
 bif decide (v3 < v2) then
 bif decide (0 <= v3) && decide (v3 < (v1.length : Int)) then
 some (0, [I (IntKind.i64.wrap (v0 + gA (nth [] v1 v3.toNat) 3)), .view kSgm v1, I v2, I (IntKind.i64.wrap (v3 + 1))])
 else
 none
 else
 some (1, [I v0]) := by kernel_rfl
theorem mf_path_Length_eq (N3 : Lp) (x0 x1 x2 : Int) (x3 x4 : Rw) : mf_path_Length N3 [I x0, I x1, I x2, .view kSgm x3, .view kPt x4] =
 (N3 [I 0, .view kSgm x3, I (x3.length : Int), I 0]).bind fun o1 =>
 bif o1.1.beq 1 then
 some [jA o1.2 0]
 else
 none := by kernel_rfl
def l_path_Length_3 := loopC (st_path_Length_3 )
def m_path_Length := mf_path_Length l_path_Length_3
theorem sp_path_Length : SpecOK Try.prog (C_path_Length_0 ) := specOK_of rfl trivial
theorem r_path_Length : RowOK Try.prog (46, spOf sig_path_Length osig_path_Length m_path_Length) := row_of (C := (C_path_Length_1 l_path_Length_3)) (L := 64) (by kernel_rfl) ((FnOK.bare rfl rfl rfl).loop sp_path_Length eqOk mixOk (by kernel_rfl) (by kernel_rfl)) sp_path_Length eqOk mixOk (by kernel_rfl) (by kernel_rfl)
def sig_track_Leg : Sk := { tmps := [TS.v true [ci, ci, ci, CS.sl kSgm, CS.sl kPt], TS.v true [ci, ci, ci, ci, ci, ci, ci, ci, ci, CS.sl kInts, ci, ci, ci, ci, ci, ci, ci, ci, ci, CS.sl kInts, ci, ci, ci, ci, ci, ci, ci, ci, ci, CS.sl kInts], TS.v true [ci, ci, ci], tf [ci], tf [ci]], boxes := [], rows := [] }
def osig_track_Leg : Sk := { tmps := [TS.v true [CS.sl kPce, ci, ci, ci, ci, ci]], boxes := [], rows := [] }
def C_track_Leg_0 (M_track_each M_track_Leg_2 M_track_Leg_1 M_track_clamp M_path_Length : Fn) : Cfg := { spec := lookS [(87, spOf sig_track_each osig_track_each M_track_each), (84, spOf sig_track_Leg_2 osig_track_Leg_2 M_track_Leg_2), (83, spOf sig_track_Leg_1 osig_track_Leg_1 M_track_Leg_1), (82, spOf sig_track_clamp osig_track_clamp M_track_clamp), (46, spOf sig_path_Length osig_path_Length M_path_Length)], eqOk := eqAll, pure := fun f => !(elemN [87, 84, 83] f), ownOff := ownOff }
def mf_track_Leg (M_track_each M_track_Leg_2 M_track_Leg_1 M_track_clamp M_path_Length : Fn) : Fn := modelF Try.prog (C_track_Leg_0 M_track_each M_track_Leg_2 M_track_Leg_1 M_track_clamp M_path_Length) 64 36 sig_track_Leg osig_track_Leg
theorem mf_track_Leg_eq (M_track_each M_track_Leg_2 M_track_Leg_1 M_track_clamp M_path_Length : Fn) (x0 x1 x2 : Int) (x3 x4 : Rw) (x5 x6 x7 x8 x9 x10 x11 x12 x13 : Int) (x14 : Rw) (x15 x16 x17 x18 x19 x20 x21 x22 x23 : Int) (x24 : Rw) (x25 x26 x27 x28 x29 x30 x31 x32 x33 : Int) (x34 : Rw) (x35 x36 x37 x38 x39 : Int) : mf_track_Leg M_track_each M_track_Leg_2 M_track_Leg_1 M_track_clamp M_path_Length [I x0, I x1, I x2, .view kSgm x3, .view kPt x4, I x5, I x6, I x7, I x8, I x9, I x10, I x11, I x12, I x13, .view kInts x14, I x15, I x16, I x17, I x18, I x19, I x20, I x21, I x22, I x23, .view kInts x24, I x25, I x26, I x27, I x28, I x29, I x30, I x31, I x32, I x33, .view kInts x34, I x35, I x36, I x37, I x38, I x39] =
 (M_path_Length [I x0, I x1, I x2, .view kSgm x3, .view kPt x4]).bind fun o5 =>
 (M_track_clamp [I x38, jA o5 0]).bind fun o6 =>
 (M_track_clamp [I x39, jA o5 0]).bind fun o7 =>
 bif decide (gA o6 0 > gA o7 0) then
 (M_track_each [.view kPce [], I x0, I x1, I x2, .view kSgm x3, .view kPt x4, I (mn (gA o6 0) (gA o7 0)), I (mx (gA o6 0) (gA o7 0)), I (-1), I x35, I x36, I x37, I (-1), I x5, I x6, I x7, I x8, I x9, I x10, I x11, I x12, I x13, .view kInts x14, I x15, I x16, I x17, I x18, I x19, I x20, I x21, I x22, I x23, .view kInts x24, I x25, I x26, I x27, I x28, I x29, I x30, I x31, I x32, I x33, .view kInts x34, I 0, jA o6 0, I x35, I x36, I x37]).bind fun o8 =>
 some [.view kPce (wA o8 0), jA o8 35, jA o8 36, jA o8 37, jA o8 38, jA o8 39]
 else
 (M_track_each [.view kPce [], I x0, I x1, I x2, .view kSgm x3, .view kPt x4, I (mn (gA o6 0) (gA o7 0)), I (mx (gA o6 0) (gA o7 0)), I 1, I x35, I x36, I x37, I 1, I x5, I x6, I x7, I x8, I x9, I x10, I x11, I x12, I x13, .view kInts x14, I x15, I x16, I x17, I x18, I x19, I x20, I x21, I x22, I x23, .view kInts x24, I x25, I x26, I x27, I x28, I x29, I x30, I x31, I x32, I x33, .view kInts x34, I 0, jA o6 0, I x35, I x36, I x37]).bind fun o9 =>
 some [.view kPce (wA o9 0), jA o9 35, jA o9 36, jA o9 37, jA o9 38, jA o9 39] := by kernel_rfl
def m_track_Leg := mf_track_Leg m_track_each m_track_Leg_2 m_track_Leg_1 m_track_clamp m_path_Length 
theorem sp_track_Leg : SpecOK Try.prog (C_track_Leg_0 m_track_each m_track_Leg_2 m_track_Leg_1 m_track_clamp m_path_Length) := specOK_of rfl ⟨r_track_each, r_track_Leg_2, r_track_Leg_1, r_track_clamp, r_path_Length, trivial⟩
theorem r_track_Leg : RowOK Try.prog (36, spOf sig_track_Leg osig_track_Leg m_track_Leg) := row_of (C := (C_track_Leg_0 m_track_each m_track_Leg_2 m_track_Leg_1 m_track_clamp m_path_Length)) (L := 64) (by kernel_rfl) (FnOK.bare rfl rfl rfl) sp_track_Leg eqOk mixOk (by kernel_rfl) (by kernel_rfl)
def sig_cncmill_Mod : Sk := { tmps := [tf [ci], tf [ci]], boxes := [], rows := [] }
def osig_cncmill_Mod : Sk := { tmps := [tf [ci]], boxes := [], rows := [] }
def C_cncmill_Mod_0 : Cfg := { spec := lookS [], eqOk := eqAll, ownOff := ownOff }
def mf_cncmill_Mod : Fn := modelF Try.prog C_cncmill_Mod_0 64 23 sig_cncmill_Mod osig_cncmill_Mod
theorem mf_cncmill_Mod_eq (x0 x1 : Int) : mf_cncmill_Mod [I x0, I x1] =
 bif decide (x1 = 0) then
 none
 else
 bif decide (x1 = 0) then
 none
 else
 some [I ((IntKind.i64.wrap (x0.tmod x1 + x1)).tmod x1)] := by kernel_rfl
def m_cncmill_Mod := mf_cncmill_Mod 
theorem sp_cncmill_Mod : SpecOK Try.prog (C_cncmill_Mod_0 ) := specOK_of rfl trivial
theorem r_cncmill_Mod : RowOK Try.prog (23, spOf sig_cncmill_Mod osig_cncmill_Mod m_cncmill_Mod) := row_of (C := C_cncmill_Mod_0) (L := 64) (by kernel_rfl) (FnOK.bare rfl rfl rfl) sp_cncmill_Mod eqOk mixOk (by kernel_rfl) (by kernel_rfl)
def sig_cncref25_Length : Sk := { tmps := [TS.v true [ci, ci, ci, CS.sl kSgm, CS.sl kPt]], boxes := [], rows := [] }
def osig_cncref25_Length : Sk := { tmps := [tf [ci]], boxes := [], rows := [] }
def C_cncref25_Length_0 : Cfg := { spec := lookS [], eqOk := eqAll, ownOff := ownOff }
def sk_cncref25_Length_3 : Sk := { tmps := [td, td, td, tf [ci], td, td, td, tf [CS.sl kSgm], tf [ci], tf [ci]] ++ dd 9, boxes := [], rows := [] }
def ex_cncref25_Length_3 : List (Ex × Sk) := [(Ex.exit 0, { tmps := [td, td, td, tf [ci]] ++ dd 15, boxes := [], rows := [] })]
def st_cncref25_Length_3 : Lp := stepL Try.prog C_cncref25_Length_0 64 3 (bodyOf Try.prog 35 3) sk_cncref25_Length_3 ex_cncref25_Length_3
def C_cncref25_Length_1 (N3 : Lp) : Cfg := C_cncref25_Length_0.loop 3 sk_cncref25_Length_3 ex_cncref25_Length_3 N3
def mf_cncref25_Length (N3 : Lp) : Fn := modelF Try.prog (C_cncref25_Length_1 N3) 64 35 sig_cncref25_Length osig_cncref25_Length
theorem st_cncref25_Length_3_eq (v0 : Int) (v1 : Rw) (v2 v3 : Int) : st_cncref25_Length_3 [I v0, .view kSgm v1, I v2, I v3] =
 bif decide (v3 < v2) then
 bif decide (0 <= v3) && decide (v3 < (v1.length : Int)) then
 some (0, [I (IntKind.i64.wrap (v0 + gA (nth [] v1 v3.toNat) 3)), .view kSgm v1, I v2, I (IntKind.i64.wrap (v3 + 1))])
 else
 none
 else
 some (1, [I v0]) := by kernel_rfl
theorem mf_cncref25_Length_eq (N3 : Lp) (x0 x1 x2 : Int) (x3 x4 : Rw) : mf_cncref25_Length N3 [I x0, I x1, I x2, .view kSgm x3, .view kPt x4] =
 (N3 [I 0, .view kSgm x3, I (x3.length : Int), I 0]).bind fun o1 =>
 bif o1.1.beq 1 then
 some [jA o1.2 0]
 else
 none := by kernel_rfl
def l_cncref25_Length_3 := loopC (st_cncref25_Length_3 )
def m_cncref25_Length := mf_cncref25_Length l_cncref25_Length_3
theorem sp_cncref25_Length : SpecOK Try.prog (C_cncref25_Length_0 ) := specOK_of rfl trivial
theorem r_cncref25_Length : RowOK Try.prog (35, spOf sig_cncref25_Length osig_cncref25_Length m_cncref25_Length) := row_of (C := (C_cncref25_Length_1 l_cncref25_Length_3)) (L := 64) (by kernel_rfl) ((FnOK.bare rfl rfl rfl).loop sp_cncref25_Length eqOk mixOk (by kernel_rfl) (by kernel_rfl)) sp_cncref25_Length eqOk mixOk (by kernel_rfl) (by kernel_rfl)
def sig_cncmill_Dirs : Sk := { tmps := [tf [ci]], boxes := [], rows := [] }
def osig_cncmill_Dirs : Sk := { tmps := [TS.v true [ci, ci, ci]], boxes := [], rows := [] }
def C_cncmill_Dirs_0 (M_cncmill_Mod : Fn) : Cfg := { spec := lookS [(23, spOf sig_cncmill_Mod osig_cncmill_Mod M_cncmill_Mod)], eqOk := eqAll, ownOff := ownOff }
def mf_cncmill_Dirs (M_cncmill_Mod : Fn) : Fn := modelF Try.prog (C_cncmill_Dirs_0 M_cncmill_Mod) 64 34 sig_cncmill_Dirs osig_cncmill_Dirs
theorem mf_cncmill_Dirs_eq (M_cncmill_Mod : Fn) (x0 : Int) : mf_cncmill_Dirs M_cncmill_Mod [I x0] =
 (M_cncmill_Mod [I x0, I 8]).bind fun o1 =>
 some [I (IntKind.i64.wrap (1 - IntKind.i64.wrap ((gA o1 0).tmod 2 * 2))), I (IntKind.i64.wrap (1 - IntKind.i64.wrap ((IntKind.i64.wrap ((gA o1 0).tdiv 2)).tmod 2 * 2))), I (IntKind.i64.wrap (1 - IntKind.i64.wrap (IntKind.i64.wrap ((gA o1 0).tdiv 4) * 2)))] := by kernel_rfl
def m_cncmill_Dirs := mf_cncmill_Dirs m_cncmill_Mod 
theorem sp_cncmill_Dirs : SpecOK Try.prog (C_cncmill_Dirs_0 m_cncmill_Mod) := specOK_of rfl ⟨r_cncmill_Mod, trivial⟩
theorem r_cncmill_Dirs : RowOK Try.prog (34, spOf sig_cncmill_Dirs osig_cncmill_Dirs m_cncmill_Dirs) := row_of (C := (C_cncmill_Dirs_0 m_cncmill_Mod)) (L := 64) (by kernel_rfl) (FnOK.bare rfl rfl rfl) sp_cncmill_Dirs eqOk mixOk (by kernel_rfl) (by kernel_rfl)
def sig_cncmill_Source_Next : Sk := { tmps := [tf [CS.ptr 20000 0], tf [ci]], boxes := [(20000, 138, [CS.sl kInts, ci])], rows := [] }
def osig_cncmill_Source_Next : Sk := { tmps := [tf [ci]], boxes := [(20000, 138, [CS.sl kInts, ci])], rows := [] }
def C_cncmill_Source_Next_0 (M_cncmill_Mod : Fn) : Cfg := { spec := lookS [(23, spOf sig_cncmill_Mod osig_cncmill_Mod M_cncmill_Mod)], eqOk := eqAll, ownOff := ownOff }
def mf_cncmill_Source_Next (M_cncmill_Mod : Fn) : Fn := modelF Try.prog (C_cncmill_Source_Next_0 M_cncmill_Mod) 64 61 sig_cncmill_Source_Next osig_cncmill_Source_Next
theorem mf_cncmill_Source_Next_eq (M_cncmill_Mod : Fn) (x0 : Int) (x1 : Rw) (x2 : Int) : mf_cncmill_Source_Next M_cncmill_Mod [I x0, .view kInts x1, I x2] =
 bif decide (x2 >= (x1.length : Int)) then
 some [I 0, .view kInts x1, I x2]
 else
 bif decide (0 <= x2) && decide (x2 < (x1.length : Int)) then
 (M_cncmill_Mod [jA (nth [] x1 x2.toNat) 0, I x0]).bind fun o1 =>
 some [jA o1 0, .view kInts x1, I (IntKind.i64.wrap (x2 + 1))]
 else
 none := by kernel_rfl
def m_cncmill_Source_Next := mf_cncmill_Source_Next m_cncmill_Mod 
theorem sp_cncmill_Source_Next : SpecOK Try.prog (C_cncmill_Source_Next_0 m_cncmill_Mod) := specOK_of rfl ⟨r_cncmill_Mod, trivial⟩
theorem r_cncmill_Source_Next : RowOK Try.prog (61, spOf sig_cncmill_Source_Next osig_cncmill_Source_Next m_cncmill_Source_Next) := row_of (C := (C_cncmill_Source_Next_0 m_cncmill_Mod)) (L := 64) (by kernel_rfl) (FnOK.bare rfl rfl rfl) sp_cncmill_Source_Next eqOk mixOk (by kernel_rfl) (by kernel_rfl)
def sig_cncmill_Axis : Sk := { tmps := [tf [CS.ptr 20000 0]], boxes := [(20000, 138, [CS.sl kInts, ci])], rows := [] }
def osig_cncmill_Axis : Sk := { tmps := [TS.v true [ci, ci, ci, ci, ci, ci, ci, ci, ci, CS.sl kInts]], boxes := [(20000, 138, [CS.sl kInts, ci])], rows := [] }
def C_cncmill_Axis_0 (M_cncmill_Source_Next : Fn) : Cfg := { spec := lookS [(61, spOf sig_cncmill_Source_Next osig_cncmill_Source_Next M_cncmill_Source_Next)], eqOk := eqAll, pure := fun f => !(elemN [61] f), ownOff := ownOffX }
def sk_cncmill_Axis_11 : Sk := { tmps := [tf [CS.ptr 20000 0], td, tf [CS.ptr 2 0], tf [CS.ptr 3 0], tf [ci], tf [ci], tf [ci]] ++ dd 72, boxes := [(2, 54, [ci, ci, ci, ci, ci, ci, ci, ci, ci, CS.own 1002009 1]), (3, 54, [ci, ci, ci, ci, ci, ci, ci, ci, ci, CS.own 1003009 1]), (20000, 138, [CS.sl kInts, ci])], rows := [(1002009, 3, kInts), (1003009, 3, kInts)] }
def ex_cncmill_Axis_11 : List (Ex × Sk) := [(Ex.exit 0, { tmps := [td, td, tf [CS.ptr 2 0], tf [CS.ptr 3 0]] ++ dd 75, boxes := [(2, 54, [ci, ci, ci, ci, ci, ci, ci, ci, ci, CS.own 1002009 1]), (3, 54, [ci, ci, ci, ci, ci, ci, ci, ci, ci, CS.own 1003009 1]), (20000, 138, [CS.sl kInts, ci])], rows := [(1002009, 3, kInts), (1003009, 3, kInts)] })]
def st_cncmill_Axis_11 (M_cncmill_Source_Next : Fn) : Lp := stepL Try.prog (C_cncmill_Axis_0 M_cncmill_Source_Next) 64 11 (bodyOf Try.prog 81 11) sk_cncmill_Axis_11 ex_cncmill_Axis_11
def C_cncmill_Axis_1 (M_cncmill_Source_Next : Fn) (N11 : Lp) : Cfg := (C_cncmill_Axis_0 M_cncmill_Source_Next).loop 11 sk_cncmill_Axis_11 ex_cncmill_Axis_11 N11
def mf_cncmill_Axis (M_cncmill_Source_Next : Fn) (N11 : Lp) : Fn := modelF Try.prog (C_cncmill_Axis_1 M_cncmill_Source_Next N11) 64 81 sig_cncmill_Axis osig_cncmill_Axis
theorem st_cncmill_Axis_11_eq (M_cncmill_Source_Next : Fn) (v0 v1 : Rw) (v2 v3 v4 v5 v6 v7 v8 v9 v10 v11 v12 v13 v14 v15 v16 v17 v18 v19 v20 v21 v22 : Int) (v23 : Rw) (v24 : Int) : st_cncmill_Axis_11 M_cncmill_Source_Next [.view kInts v0, .view kInts v1, I v2, I v3, I v4, I v5, I v6, I v7, I v8, I v9, I v10, I v11, I v12, I v13, I v14, I v15, I v16, I v17, I v18, I v19, I v20, I v21, I v22, .view kInts v23, I v24] =
 bif decide (v4 < v2) then
 bif ((v1 ++ [[I v3]]).length * 8).ble 140737488355328 then
 (M_cncmill_Source_Next [I (IntKind.i64.wrap (IntKind.i64.wrap (2 * IntKind.i64.wrap (v22.tdiv 4)) + 1)), .view kInts v23, I v24]).bind fun o20 =>
 some (0, [.view kInts v0, .view kInts (v1 ++ [[I v3]]), I v2, I (mn (mx (IntKind.i64.wrap (IntKind.i64.wrap (v3 + gA o20 0) - IntKind.i64.wrap (v22.tdiv 4))) (-4096)) 4096), I (IntKind.i64.wrap (v4 + 1)), I v5, I v6, I v7, I v8, I v9, I v10, I v11, I v12, I v13, I v14, I v15, I v16, I v17, I v18, I v19, I v20, I v21, I v22, .view kInts (wA o20 1), jA o20 2])
 else
 none
 else
 some (1, [.view kInts v0, .view kInts v1, I v5, I v6, I v7, I v8, I v9, I v10, I v11, I v12, I v13, I v14, I v15, I v16, I v17, I v18, I v19, I v20, I v21, I v22, .view kInts v23, I v24]) := by kernel_rfl
theorem mf_cncmill_Axis_eq (M_cncmill_Source_Next : Fn) (N11 : Lp) (x0 : Rw) (x1 : Int) : mf_cncmill_Axis M_cncmill_Source_Next N11 [.view kInts x0, I x1] =
 (M_cncmill_Source_Next [I 6, .view kInts x0, I x1]).bind fun o21 =>
 bif decide (0 <= gA o21 0) && decide (gA o21 0 < (↑[[I 8], [I 4], [I 5], [I 16], [I 23], [I 64]].length : Int)) then
 (M_cncmill_Source_Next [I 4, .view kInts (wA o21 1), jA o21 2]).bind fun o22 =>
 bif decide (0 <= gA o22 0) && decide (gA o22 0 < (↑[[I 0], [I 1], [I 3], [I 6]].length : Int)) then
 (M_cncmill_Source_Next [I 5, .view kInts (wA o22 1), jA o22 2]).bind fun o23 =>
 bif decide (0 <= gA o23 0) && decide (gA o23 0 < (↑[[I 40], [I 1], [I 3], [I 9], [I 1000]].length : Int)) then
 (M_cncmill_Source_Next [I 5, .view kInts (wA o23 1), jA o23 2]).bind fun o24 =>
 bif decide (0 <= gA o24 0) && decide (gA o24 0 < (↑[[I 20], [I 2], [I 3], [I 5], [I 1000]].length : Int)) then
 (M_cncmill_Source_Next [I 5, .view kInts (wA o24 1), jA o24 2]).bind fun o25 =>
 bif decide (0 <= gA o25 0) && decide (gA o25 0 < (↑[[I 30], [I 4], [I 5], [I 8], [I 1000]].length : Int)) then
 (M_cncmill_Source_Next [I 5, .view kInts (wA o25 1), jA o25 2]).bind fun o26 =>
 bif gA o26 0 == 0 then
 some [I (intOf (nth .dead (nth [] [[I 8], [I 4], [I 5], [I 16], [I 23], [I 64]] (gA o21 0).toNat) 0)), I (intOf (nth .dead (nth [] [[I 40], [I 1], [I 3], [I 9], [I 1000]] (gA o23 0).toNat) 0)), I (intOf (nth .dead (nth [] [[I 20], [I 2], [I 3], [I 5], [I 1000]] (gA o24 0).toNat) 0)), I (intOf (nth .dead (nth [] [[I 30], [I 4], [I 5], [I 8], [I 1000]] (gA o25 0).toNat) 0)), I (-16777216), I 16777216, I (intOf (nth .dead (nth [] [[I 0], [I 1], [I 3], [I 6]] (gA o22 0).toNat) 0)), I 0, I 0, .view kInts [], .view kInts (wA o26 1), jA o26 2]
 else
 (M_cncmill_Source_Next [I 400, .view kInts (wA o26 1), jA o26 2]).bind fun o27 =>
 (M_cncmill_Source_Next [I 120, .view kInts (wA o27 1), jA o27 2]).bind fun o28 =>
 (M_cncmill_Source_Next [I 9, .view kInts (wA o28 1), jA o28 2]).bind fun o29 =>
 (N11 [.view kInts [], .view kInts [], jA o26 0, I (IntKind.i64.wrap (gA o29 0 - 4)), I 0, I 0, I 0, I 0, I 0, I 0, I 0, I 0, I 0, I 0, I (intOf (nth .dead (nth [] [[I 8], [I 4], [I 5], [I 16], [I 23], [I 64]] (gA o21 0).toNat) 0)), I (intOf (nth .dead (nth [] [[I 40], [I 1], [I 3], [I 9], [I 1000]] (gA o23 0).toNat) 0)), I (intOf (nth .dead (nth [] [[I 20], [I 2], [I 3], [I 5], [I 1000]] (gA o24 0).toNat) 0)), I (intOf (nth .dead (nth [] [[I 30], [I 4], [I 5], [I 8], [I 1000]] (gA o25 0).toNat) 0)), I (-16777216), I 16777216, I (intOf (nth .dead (nth [] [[I 0], [I 1], [I 3], [I 6]] (gA o22 0).toNat) 0)), I (IntKind.i64.wrap (gA o27 0 - 200)), I (IntKind.i64.wrap (4 + gA o28 0)), .view kInts (wA o29 1), jA o29 2]).bind fun o30 =>
 bif o30.1.beq 1 then
 some [jA o30.2 11, jA o30.2 12, jA o30.2 13, jA o30.2 14, jA o30.2 15, jA o30.2 16, jA o30.2 17, jA o30.2 18, jA o30.2 19, .view kInts (wA o30.2 1), .view kInts (wA o30.2 20), jA o30.2 21]
 else
 none
 else
 none
 else
 none
 else
 none
 else
 none
 else
 none := by kernel_rfl
def l_cncmill_Axis_11 := loopC (st_cncmill_Axis_11 m_cncmill_Source_Next )
def m_cncmill_Axis := mf_cncmill_Axis m_cncmill_Source_Next l_cncmill_Axis_11
theorem sp_cncmill_Axis : SpecOK Try.prog (C_cncmill_Axis_0 m_cncmill_Source_Next) := specOK_of rfl ⟨r_cncmill_Source_Next, trivial⟩
theorem r_cncmill_Axis : RowOK Try.prog (81, spOf sig_cncmill_Axis osig_cncmill_Axis m_cncmill_Axis) := row_of (C := (C_cncmill_Axis_1 m_cncmill_Source_Next l_cncmill_Axis_11)) (L := 64) (by kernel_rfl) ((FnOK.bare rfl rfl rfl).loop sp_cncmill_Axis eqOk mixOk (by kernel_rfl) (by kernel_rfl)) sp_cncmill_Axis eqOk mixOk (by kernel_rfl) (by kernel_rfl)
def sig_cncmill_From : Sk := { tmps := [tf [CS.sl kInts]], boxes := [], rows := [] }
def osig_cncmill_From : Sk := { tmps := [tf [CS.ptr 5 0]], boxes := [(5, 138, [CS.sl kInts, ci])], rows := [] }
def C_cncmill_From_0 : Cfg := { spec := lookS [], eqOk := eqAll, ownOff := ownOff }
def mf_cncmill_From : Fn := modelF Try.prog C_cncmill_From_0 64 59 sig_cncmill_From osig_cncmill_From
theorem mf_cncmill_From_eq (x0 : Rw) : mf_cncmill_From [.view kInts x0] =
 some [.view kInts x0, I 0] := by kernel_rfl
def m_cncmill_From := mf_cncmill_From 
theorem sp_cncmill_From : SpecOK Try.prog (C_cncmill_From_0 ) := specOK_of rfl trivial
theorem r_cncmill_From : RowOK Try.prog (59, spOf sig_cncmill_From osig_cncmill_From m_cncmill_From) := row_of (C := C_cncmill_From_0) (L := 64) (by kernel_rfl) (FnOK.bare rfl rfl rfl) sp_cncmill_From eqOk mixOk (by kernel_rfl) (by kernel_rfl)
def sig_cncmill_Axes : Sk := { tmps := [tf [CS.sl kInts]], boxes := [], rows := [] }
def osig_cncmill_Axes : Sk := { tmps := [TS.v true [ci, ci, ci, ci, ci, ci, ci, ci, ci, CS.sl kInts, ci, ci, ci, ci, ci, ci, ci, ci, ci, CS.sl kInts, ci, ci, ci, ci, ci, ci, ci, ci, ci, CS.sl kInts]], boxes := [], rows := [] }
def C_cncmill_Axes_0 (M_cncmill_Axis M_cncmill_From : Fn) : Cfg := { spec := lookS [(81, spOf sig_cncmill_Axis osig_cncmill_Axis M_cncmill_Axis), (59, spOf sig_cncmill_From osig_cncmill_From M_cncmill_From)], eqOk := eqAll, pure := fun f => !(elemN [81, 59] f), ownOff := ownOff }
def mf_cncmill_Axes (M_cncmill_Axis M_cncmill_From : Fn) : Fn := modelF Try.prog (C_cncmill_Axes_0 M_cncmill_Axis M_cncmill_From) 64 33 sig_cncmill_Axes osig_cncmill_Axes
theorem mf_cncmill_Axes_eq (M_cncmill_Axis M_cncmill_From : Fn) (x0 : Rw) : mf_cncmill_Axes M_cncmill_Axis M_cncmill_From [.view kInts x0] =
 (M_cncmill_From [.view kInts x0]).bind fun o4 =>
 (M_cncmill_Axis [.view kInts (wA o4 0), jA o4 1]).bind fun o5 =>
 (M_cncmill_Axis [.view kInts (wA o5 10), jA o5 11]).bind fun o6 =>
 (M_cncmill_Axis [.view kInts (wA o6 10), jA o6 11]).bind fun o7 =>
 some [jA o5 0, jA o5 1, jA o5 2, jA o5 3, jA o5 4, jA o5 5, jA o5 6, jA o5 7, jA o5 8, .view kInts (wA o5 9), jA o6 0, jA o6 1, jA o6 2, jA o6 3, jA o6 4, jA o6 5, jA o6 6, jA o6 7, jA o6 8, .view kInts (wA o6 9), jA o7 0, jA o7 1, jA o7 2, jA o7 3, jA o7 4, jA o7 5, jA o7 6, jA o7 7, jA o7 8, .view kInts (wA o7 9)] := by kernel_rfl
def m_cncmill_Axes := mf_cncmill_Axes m_cncmill_Axis m_cncmill_From 
theorem sp_cncmill_Axes : SpecOK Try.prog (C_cncmill_Axes_0 m_cncmill_Axis m_cncmill_From) := specOK_of rfl ⟨r_cncmill_Axis, r_cncmill_From, trivial⟩
theorem r_cncmill_Axes : RowOK Try.prog (33, spOf sig_cncmill_Axes osig_cncmill_Axes m_cncmill_Axes) := row_of (C := (C_cncmill_Axes_0 m_cncmill_Axis m_cncmill_From)) (L := 64) (by kernel_rfl) (FnOK.bare rfl rfl rfl) sp_cncmill_Axes eqOk mixOk (by kernel_rfl) (by kernel_rfl)
def sig_cncref23_Motion : Sk := { tmps := [tf [ci]], boxes := [], rows := [] }
def osig_cncref23_Motion : Sk := { tmps := [tf [CS.bool]], boxes := [], rows := [] }
def C_cncref23_Motion_0 : Cfg := { spec := lookS [], eqOk := eqAll, ownOff := ownOff }
def mf_cncref23_Motion : Fn := modelF Try.prog C_cncref23_Motion_0 64 48 sig_cncref23_Motion osig_cncref23_Motion
theorem mf_cncref23_Motion_eq (x0 : Int) : mf_cncref23_Motion [I x0] =
 bif decide (x0 >= 1) then
 some [B (decide (x0 <= 6))]
 else
 some [B false] := by kernel_rfl
def m_cncref23_Motion := mf_cncref23_Motion 
theorem sp_cncref23_Motion : SpecOK Try.prog (C_cncref23_Motion_0 ) := specOK_of rfl trivial
theorem r_cncref23_Motion : RowOK Try.prog (48, spOf sig_cncref23_Motion osig_cncref23_Motion m_cncref23_Motion) := row_of (C := C_cncref23_Motion_0) (L := 64) (by kernel_rfl) (FnOK.bare rfl rfl rfl) sp_cncref23_Motion eqOk mixOk (by kernel_rfl) (by kernel_rfl)
def sig_cncref25_synchronized : Sk := { tmps := [TS.v true [ci, ci, ci, ci, ci, ci, ci, ci, ci, ci, ci, ci, ci, CS.bool, ci, CS.bool, ci, ci, ci, ci, ci, CS.bool]], boxes := [], rows := [] }
def osig_cncref25_synchronized : Sk := { tmps := [tf [CS.bool]], boxes := [], rows := [] }
def C_cncref25_synchronized_0 : Cfg := { spec := lookS [], eqOk := eqAll, ownOff := ownOff }
def mf_cncref25_synchronized : Fn := modelF Try.prog C_cncref25_synchronized_0 64 129 sig_cncref25_synchronized osig_cncref25_synchronized
theorem mf_cncref25_synchronized_eq (x0 x1 x2 x3 x4 x5 x6 x7 x8 x9 x10 x11 x12 : Int) (x13 : Bool) (x14 : Int) (x15 : Bool) (x16 x17 x18 x19 x20 : Int) (x21 : Bool) : mf_cncref25_synchronized [I x0, I x1, I x2, I x3, I x4, I x5, I x6, I x7, I x8, I x9, I x10, I x11, I x12, B x13, I x14, B x15, I x16, I x17, I x18, I x19, I x20, B x21] =
 bif x0 == 5 then
 some [B true]
 else
 some [B (x0 == 6)] := by kernel_rfl
def m_cncref25_synchronized := mf_cncref25_synchronized 
theorem sp_cncref25_synchronized : SpecOK Try.prog (C_cncref25_synchronized_0 ) := specOK_of rfl trivial
theorem r_cncref25_synchronized : RowOK Try.prog (129, spOf sig_cncref25_synchronized osig_cncref25_synchronized m_cncref25_synchronized) := row_of (C := C_cncref25_synchronized_0) (L := 64) (by kernel_rfl) (FnOK.bare rfl rfl rfl) sp_cncref25_synchronized eqOk mixOk (by kernel_rfl) (by kernel_rfl)
def sig_cncref25_kind : Sk := { tmps := [tf [CS.sl kItm], tf [ci]], boxes := [], rows := [] }
def osig_cncref25_kind : Sk := { tmps := [tf [ci]], boxes := [], rows := [] }
def C_cncref25_kind_0 (M_cncref23_Motion M_cncref25_synchronized : Fn) : Cfg := { spec := lookS [(48, spOf sig_cncref23_Motion osig_cncref23_Motion M_cncref23_Motion), (129, spOf sig_cncref25_synchronized osig_cncref25_synchronized M_cncref25_synchronized)], eqOk := eqAll, ownOff := ownOff }
def sk_cncref25_kind_6 : Sk := { tmps := [tf [CS.sl kItm], td, td, td, td, tf [ci]] ++ dd 38, boxes := [], rows := [] }
def ex_cncref25_kind_6 : List (Ex × Sk) := [(Ex.ret, { tmps := [td, td, td, td, tf [ci]] ++ dd 39, boxes := [], rows := [] }), (Ex.exit 0, { tmps := [td] ++ dd 43, boxes := [], rows := [] })]
def st_cncref25_kind_6 (M_cncref23_Motion M_cncref25_synchronized : Fn) : Lp := stepL Try.prog (C_cncref25_kind_0 M_cncref23_Motion M_cncref25_synchronized) 64 6 (bodyOf Try.prog 131 6) sk_cncref25_kind_6 ex_cncref25_kind_6
def C_cncref25_kind_1 (M_cncref23_Motion M_cncref25_synchronized : Fn) (N6 : Lp) : Cfg := (C_cncref25_kind_0 M_cncref23_Motion M_cncref25_synchronized).loop 6 sk_cncref25_kind_6 ex_cncref25_kind_6 N6
def mf_cncref25_kind (M_cncref23_Motion M_cncref25_synchronized : Fn) (N6 : Lp) : Fn := modelF Try.prog (C_cncref25_kind_1 M_cncref23_Motion M_cncref25_synchronized N6) 64 131 sig_cncref25_kind osig_cncref25_kind
theorem st_cncref25_kind_6_eq (M_cncref23_Motion M_cncref25_synchronized : Fn) (v0 : Rw) (v1 : Int) : st_cncref25_kind_6 M_cncref23_Motion M_cncref25_synchronized [.view kItm v0, I v1] =
 bif decide (v1 < (v0.length : Int)) then
 bif decide (0 <= v1) && decide (v1 < (v0.length : Int)) then
 (M_cncref23_Motion [jA (nth [] v0 v1.toNat) 0]).bind fun o5 =>
 bif bA o5 0 then
 bif decide (0 <= v1) && decide (v1 < (v0.length : Int)) then
 (M_cncref25_synchronized [jA (nth [] v0 v1.toNat) 0, jA (nth [] v0 v1.toNat) 1, jA (nth [] v0 v1.toNat) 2, jA (nth [] v0 v1.toNat) 3, jA (nth [] v0 v1.toNat) 4, jA (nth [] v0 v1.toNat) 5, jA (nth [] v0 v1.toNat) 6, jA (nth [] v0 v1.toNat) 7, jA (nth [] v0 v1.toNat) 8, jA (nth [] v0 v1.toNat) 9, jA (nth [] v0 v1.toNat) 10, jA (nth [] v0 v1.toNat) 11, jA (nth [] v0 v1.toNat) 12, B (bA (nth [] v0 v1.toNat) 13), jA (nth [] v0 v1.toNat) 14, B (bA (nth [] v0 v1.toNat) 15), jA (nth [] v0 v1.toNat) 16, jA (nth [] v0 v1.toNat) 17, jA (nth [] v0 v1.toNat) 18, jA (nth [] v0 v1.toNat) 19, jA (nth [] v0 v1.toNat) 20, B (bA (nth [] v0 v1.toNat) 21)]).bind fun o6 =>
 bif bA o6 0 then
 some (1, [I 1])
 else
 some (2, [])
 else
 none
 else
 some (0, [.view kItm v0, I (IntKind.i64.wrap (v1 + 1))])
 else
 none
 else
 some (2, []) := by kernel_rfl
theorem mf_cncref25_kind_eq (M_cncref23_Motion M_cncref25_synchronized : Fn) (N6 : Lp) (x0 : Rw) (x1 : Int) : mf_cncref25_kind M_cncref23_Motion M_cncref25_synchronized N6 [.view kItm x0, I x1] =
 bif decide (0 <= x1) && decide (x1 < (x0.length : Int)) then
 bif gA (nth [] x0 x1.toNat) 0 == 4 then
 some [I 6]
 else
 bif decide (0 <= x1) && decide (x1 < (x0.length : Int)) then
 bif gA (nth [] x0 x1.toNat) 18 == 0 then
 some [I 1]
 else
 bif decide (0 <= x1) && decide (x1 < (x0.length : Int)) then
 (M_cncref25_synchronized [jA (nth [] x0 x1.toNat) 0, jA (nth [] x0 x1.toNat) 1, jA (nth [] x0 x1.toNat) 2, jA (nth [] x0 x1.toNat) 3, jA (nth [] x0 x1.toNat) 4, jA (nth [] x0 x1.toNat) 5, jA (nth [] x0 x1.toNat) 6, jA (nth [] x0 x1.toNat) 7, jA (nth [] x0 x1.toNat) 8, jA (nth [] x0 x1.toNat) 9, jA (nth [] x0 x1.toNat) 10, jA (nth [] x0 x1.toNat) 11, jA (nth [] x0 x1.toNat) 12, B (bA (nth [] x0 x1.toNat) 13), jA (nth [] x0 x1.toNat) 14, B (bA (nth [] x0 x1.toNat) 15), jA (nth [] x0 x1.toNat) 16, jA (nth [] x0 x1.toNat) 17, jA (nth [] x0 x1.toNat) 18, jA (nth [] x0 x1.toNat) 19, jA (nth [] x0 x1.toNat) 20, B (bA (nth [] x0 x1.toNat) 21)]).bind fun o7 =>
 bif bA o7 0 then
 some [I 1]
 else
 (N6 [.view kItm x0, I (IntKind.i64.wrap (x1 + 1))]).bind fun o8 =>
 bif o8.1.beq 1 then
 some [jA o8.2 0]
 else
 bif o8.1.beq 2 then
 some [I 2]
 else
 none
 else
 none
 else
 none
 else
 none := by kernel_rfl
def l_cncref25_kind_6 := loopC (st_cncref25_kind_6 m_cncref23_Motion m_cncref25_synchronized )
def m_cncref25_kind := mf_cncref25_kind m_cncref23_Motion m_cncref25_synchronized l_cncref25_kind_6
theorem sp_cncref25_kind : SpecOK Try.prog (C_cncref25_kind_0 m_cncref23_Motion m_cncref25_synchronized) := specOK_of rfl ⟨r_cncref23_Motion, r_cncref25_synchronized, trivial⟩
theorem r_cncref25_kind : RowOK Try.prog (131, spOf sig_cncref25_kind osig_cncref25_kind m_cncref25_kind) := row_of (C := (C_cncref25_kind_1 m_cncref23_Motion m_cncref25_synchronized l_cncref25_kind_6)) (L := 64) (by kernel_rfl) ((FnOK.bare rfl rfl rfl).loop sp_cncref25_kind eqOk mixOk (by kernel_rfl) (by kernel_rfl)) sp_cncref25_kind eqOk mixOk (by kernel_rfl) (by kernel_rfl)
end Go.Bm
